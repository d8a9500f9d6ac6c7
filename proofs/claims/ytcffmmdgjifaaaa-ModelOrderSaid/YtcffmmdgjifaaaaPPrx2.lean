/- The machine's side of this seat's laws: what each function computes, and that its call computes it; written by a program (pr.py over the kit's print.py). -/
import Derived.Test.YtcffmmdgjifaaaaPPrx0
namespace Go.Proofs.Ytcffmmdgjifaaaa.PPr
open Go.RowKit Go.Proofs.YtcffmmdgjifaaaaW.PrintWords Go.Proofs.YtcffmmdgjifaaaaW.PrintLast Go.Proofs.YtcffmmdgjifaaaaW.PrintMore
attribute [local go_sem] max2_int min2_int max_two min_two max_three min_three max_four min_four   -- for this text's walks alone
set_option linter.unusedVariables false
set_option linter.unusedSimpArgs false

/-! ### norm_claims_Swap: function 93 -/
def norm_claims_Swap.f (l0 : List (S71)) (a1 : Int) (a2 : Int) : Option ((List (S71))) := if 0 ≤ a2 then (if a2 < (l0.length : Int) then (if 0 ≤ a1 then (if a1 < (l0.length : Int) then (some ((l0.set (a1 : Int).toNat (⟨(rd_T71 l0 a2).f0, (rd_T71 l0 a2).f1, (rd_T71 l0 a2).f2⟩ : S71)).set (a2 : Int).toNat (⟨(rd_T71 l0 a1).f0, (rd_T71 l0 a1).f1, (rd_T71 l0 a1).f2⟩ : S71))) else (none)) else (none)) else (none)) else (none)
def norm_claims_Swap.T0 : Bool × List (List Nat × List Nat) := (true, [([], []), ([], []), ([], []), ([], []), ([], []), ([], []), ([4, 5], [4, 5]), ([6], [6]), ([], []), ([], []), ([8, 9], [8, 9]), ([10], [10]), ([0, 1, 0, 1, 4, 5, 6, 7, 11], [0, 1]), ([12, 7, 0, 1, 4, 5, 6, 7, 11], [7, 12]), ([2, 3, 0, 1, 2, 3, 4, 5, 6, 7, 8, 9, 10, 11, 12, 13], [2, 3]), ([14, 11, 13, 0, 1, 2, 3, 4, 5, 6, 7, 8, 9, 10, 11, 12, 13], [11, 14])])
def norm_claims_Swap.B0 : List Nat := [0, 0, 0, 0, 0, 0, 48, 112, 0, 0, 768, 1792, 4083, 8179, 16383, 32767]
theorem norm_claims_Swap.tab0 : rtab .any (opsOf Try.f93 0) = norm_claims_Swap.T0 := by kernel_rfl
theorem norm_claims_Swap.bits0 : waitsOk norm_claims_Swap.T0.2 norm_claims_Swap.B0 = true := by kernel_rfl
set_option maxHeartbeats 8000000 in
set_option maxRecDepth 100000 in
theorem norm_claims_Swap.calls (P0_ : Nat → Prop) (u9000_ : Value) (l0 : List (S71)) (a1 : Int) (a2 : Int) (r : List (S71)) (w0 w : World) (hB : Below w0.heap.size w0 w) (ho0 : Kd.R k71 71 w w0.heap.size P0_ u9000_ l0) (h : norm_claims_Swap.f l0 a1 a2 = some r) :
    Calls Try.prog 93 #[u9000_, .int .i64 a1, .int .i64 a2] w fun e w' => e = .returned (.tuple #[]) ∧ Kd.R k71 71 w' w0.heap.size (fun k_ => (P0_ k_ ∨ w.heap.size ≤ k_)) u9000_ r ∧ Below w0.heap.size w0 w' ∧ Kept w w' (fun k_ => P0_ k_) := by
  have hu71 := Try.underlying71
  have HO0 := Aside0.mk (show Kd.R k71 71 w w0.heap.size (fun k_ => (P0_ k_ ∨ w.heap.size ≤ k_)) u9000_ l0 from Kd.R_mono ho0 (fun k_ hk => (.inl hk)))
  have HK := Aside0.mk (Kept.refl w (fun k_ => P0_ k_))
  have HW0 := Aside0.mk hB.size
  have HB := Aside0.mk hB
  clear hB
  have H : (if 0 ≤ a2 then (if a2 < (l0.length : Int) then (if 0 ≤ a1 then (if a1 < (l0.length : Int) then (some ((l0.set (a1 : Int).toNat (⟨(rd_T71 l0 a2).f0, (rd_T71 l0 a2).f1, (rd_T71 l0 a2).f2⟩ : S71)).set (a2 : Int).toNat (⟨(rd_T71 l0 a1).f0, (rd_T71 l0 a1).f1, (rd_T71 l0 a1).f2⟩ : S71))) else (none)) else (none)) else (none)) else (none)) = some r := h
  clear h
  by_cases c4 : 0 ≤ a2
  · rw [if_pos c4] at H
    have c4b0 : decide (0 ≤ a2) = true := decide_eq_true c4
    clear c4
    by_cases c5 : a2 < (l0.length : Int)
    · rw [if_pos c5] at H
      have c5b0 : decide (a2 < (l0.length : Int)) = true := decide_eq_true c5
      clear c5
      by_cases c6 : 0 ≤ a1
      · rw [if_pos c6] at H
        have c6b0 : decide (0 ≤ a1) = true := decide_eq_true c6
        clear c6
        by_cases c7 : a1 < (l0.length : Int)
        · rw [if_pos c7] at H
          have c7b0 : decide (a1 < (l0.length : Int)) = true := decide_eq_true c7
          clear c7
          obtain ⟨y107, hy107⟩ : ∃ y_ : List (S71), y_ = (l0.set (a1 : Int).toNat (⟨(rd_T71 l0 a2).f0, (rd_T71 l0 a2).f1, (rd_T71 l0 a2).f2⟩ : S71)) := ⟨_, rfl⟩
          replace H : (some (y107.set (a2 : Int).toNat (⟨(rd_T71 l0 a1).f0, (rd_T71 l0 a1).f1, (rd_T71 l0 a1).f2⟩ : S71))) = some r := by first | (rw [hy107]; with_reducible exact H) | (have H2_ := (Option.bind_some _ _).symm.trans H; rw [hy107]; with_reducible exact H2_) | (have H2_ := (Option.bind_some _ _).symm.trans H; with_reducible exact H2_) | with_reducible exact H | (rw [hy107]; exact H) | exact H
          have Ny107 := Aside0.mk hy107
          clear hy107
          obtain ⟨y108, hy108⟩ : ∃ y_ : List (S71), y_ = (y107.set (a2 : Int).toNat (⟨(rd_T71 l0 a1).f0, (rd_T71 l0 a1).f1, (rd_T71 l0 a1).f2⟩ : S71)) := ⟨_, rfl⟩
          replace H : (some y108) = some r := by first | (rw [hy108]; with_reducible exact H) | (have H2_ := (Option.bind_some _ _).symm.trans H; rw [hy108]; with_reducible exact H2_) | (have H2_ := (Option.bind_some _ _).symm.trans H; with_reducible exact H2_) | with_reducible exact H | (rw [hy108]; exact H) | exact H
          have Ny108 := Aside0.mk hy108
          clear hy108
          obtain rfl := Option.some.inj H
          go_enter Try.func93, Try.ntmps93
          try go_wp2
          have n0_ := Aside0.mk (Kd.R_drew HO0.out)
          have n1_ := Aside0.mk (Kept.drew HK.out)
          have n2_ := Aside0.mk (below_drew1 HB.out)
          clear HO0
          clear HK
          clear HB
          have HO0 := n0_
          have HK := n1_
          have HB := n2_
          clear n0_ n1_ n2_
          obtain ⟨Ao11, co11, eo11⟩ := Kd.R_slice HO0.out
          (first | subst eo11 | (injection eo11 with f1_ f2_ f3_; have f4_ := f1_.symm; have f5_ := f3_.symm; clear f1_ f2_ f3_; subst f4_; subst f5_))
          have p105 : 0 ≤ (a2 : Int) := of_decide_eq_true (by first | (with_reducible assumption) | assumption)
          have q105 : a2 < (l0.length : Int) := of_decide_eq_true (by first | (with_reducible assumption) | assumption)
          obtain ⟨ad105, e105, hx105_0, hx105_1, hx105_2⟩ := at_T71 (Kd.R_reads' HO0.out).2.2 a2 p105 q105
          cases e105
          replace p105 := eq_true p105
          replace q105 := eq_true q105
          have p106 : 0 ≤ (a1 : Int) := of_decide_eq_true (by first | (with_reducible assumption) | assumption)
          have q106 : a1 < (l0.length : Int) := of_decide_eq_true (by first | (with_reducible assumption) | assumption)
          obtain ⟨ad106, e106, hx106_0, hx106_1, hx106_2⟩ := at_T71 (Kd.R_reads' HO0.out).2.2 a1 p106 q106
          obtain rfl : ad105 = ad106 := (by injection e106)
          replace p106 := eq_true p106
          replace q106 := eq_true q106
          have p8 : 0 ≤ (a1 : Int) := of_decide_eq_true (by first | (with_reducible assumption) | assumption)
          have q8 : (a1 : Int) < ((l0.length : Int) : Int) := of_decide_eq_true (by first | (with_reducible assumption) | assumption)
          obtain ⟨go8, co8, eo8, gb8, gl8, cl8, HG8⟩ := Kd.R_form HO0.out (by omega)
          (first | cases eo8 | (injection eo8 with ea_ en_ ec_; (first | subst ea_ | (injection ea_ with ea_; subst ea_)); subst ec_; clear en_))
          have GB8 := Aside0.mk gb8
          have GG8 := Aside0.mk HG8
          clear gb8 gl8 HG8
          have HMgo8 := Aside0.mk (show (P0_ go8 ∨ w.heap.size ≤ go8) from (HO0.out.1 _ rfl))
          (first | simp only [add_plain] at hx105_0 | skip)
          (first | simp only [add_plain] at hx105_1 | skip)
          (first | simp only [add_plain] at hx105_2 | skip)
          (first | simp only [add_plain] at hx106_0 | skip)
          (first | simp only [add_plain] at hx106_1 | skip)
          (first | simp only [add_plain] at hx106_2 | skip)
          obtain ⟨ce8, hcl8, hM8, hcc8, hfr8⟩ := Kd.R_elem HO0.out z71 (a1 : Int) p8 q8
          obtain rfl := k71_openM hM8
          have hx8_0 : World.cell? _ ⟨go8, (a1 : Int).toNat * 3, none⟩ = some (.int .i64 ((rd_T71 l0 a1).f0)) := hcc8 0 _ rfl
          have hx8_1 : World.cell? _ ⟨go8, (a1 : Int).toNat * 3 + 1, none⟩ = some (.int .i64 ((rd_T71 l0 a1).f1)) := hcc8 1 _ rfl
          have hx8_2 : World.cell? _ ⟨go8, (a1 : Int).toNat * 3 + 2, none⟩ = some (.int .i64 ((rd_T71 l0 a1).f2)) := hcc8 2 _ rfl
          have hf8_0 : World.frozen? _ ⟨go8, (a1 : Int).toNat * 3, none⟩ = false := hfr8 0
          have hf8_1 : World.frozen? _ ⟨go8, (a1 : Int).toNat * 3 + 1, none⟩ = false := hfr8 1
          have hf8_2 : World.frozen? _ ⟨go8, (a1 : Int).toNat * 3 + 2, none⟩ = false := hfr8 2
          clear hcl8 hcc8 hfr8 hM8
          replace p8 := eq_true p8
          replace q8 := eq_true q8
          obtain ⟨ce12, hcl12, hM12, hcc12, hfr12⟩ := Kd.R_elem HO0.out z71 (a1 : Int) (of_decide_eq_true (by first | (with_reducible assumption) | assumption)) (by have h_ : (a1 : Int) < ((l0.length : Int) : Int) := of_decide_eq_true (by first | (with_reducible assumption) | assumption); first | exact h_ | (have e_ := (Kd.R_reads' HO0.out).1; omega) | simpa using h_)
          obtain rfl := k71_openM hM12
          have HP12 := (Kd.R_seg HO0.out (a1 : Int) (of_decide_eq_true (by first | (with_reducible assumption) | assumption)) (by have h_ : (a1 : Int) < ((l0.length : Int) : Int) := of_decide_eq_true (by first | (with_reducible assumption) | assumption); first | exact h_ | (have e_ := (Kd.R_reads' HO0.out).1; omega) | simpa using h_) (seg := [.int .i64 ((rd_T71 l0 a2).f0), .int .i64 ((rd_T71 l0 a2).f1), .int .i64 ((rd_T71 l0 a2).f2)]) (j := 0) hcl12 hcc12 (show 3 ≤ 3 from by decide) (x' := (⟨(rd_T71 l0 a2).f0, (rd_T71 l0 a2).f1, (rd_T71 l0 a2).f2⟩ : S71)) (k71_mkM _ _ _ (⟨(rd_T71 l0 a2).f0, (rd_T71 l0 a2).f1, (rd_T71 l0 a2).f2⟩ : S71) ) (fun _ hk => hk)).1
          rw [← Ny107.out] at HP12
          have HQ12 := Aside0.mk HP12
          clear hcl12 hcc12 hfr12 hM12 HP12
          have p9 : 0 ≤ (a2 : Int) := of_decide_eq_true (by first | (with_reducible assumption) | assumption)
          have q9 : (a2 : Int) < ((l0.length : Int) : Int) := of_decide_eq_true (by first | (with_reducible assumption) | assumption)
          obtain ⟨ce9, hcl9, hM9, hcc9, hfr9⟩ := Kd.R_elem HQ12.out z71 (a2 : Int) p9 q9
          obtain rfl := k71_openM hM9
          have hx9_0 : World.cell? _ ⟨go8, (a2 : Int).toNat * 3, none⟩ = some (.int .i64 ((rd_T71 y107 a2).f0)) := hcc9 0 _ rfl
          have hx9_1 : World.cell? _ ⟨go8, (a2 : Int).toNat * 3 + 1, none⟩ = some (.int .i64 ((rd_T71 y107 a2).f1)) := hcc9 1 _ rfl
          have hx9_2 : World.cell? _ ⟨go8, (a2 : Int).toNat * 3 + 2, none⟩ = some (.int .i64 ((rd_T71 y107 a2).f2)) := hcc9 2 _ rfl
          have hf9_0 : World.frozen? _ ⟨go8, (a2 : Int).toNat * 3, none⟩ = false := hfr9 0
          have hf9_1 : World.frozen? _ ⟨go8, (a2 : Int).toNat * 3 + 1, none⟩ = false := hfr9 1
          have hf9_2 : World.frozen? _ ⟨go8, (a2 : Int).toNat * 3 + 2, none⟩ = false := hfr9 2
          clear hcl9 hcc9 hfr9 hM9
          replace p9 := eq_true p9
          replace q9 := eq_true q9
          obtain ⟨ce13, hcl13, hM13, hcc13, hfr13⟩ := Kd.R_elem HQ12.out z71 (a2 : Int) (of_decide_eq_true (by first | (with_reducible assumption) | assumption)) (by have h_ : (a2 : Int) < ((l0.length : Int) : Int) := of_decide_eq_true (by first | (with_reducible assumption) | assumption); first | exact h_ | (have e_ := (Kd.R_reads' HO0.out).1; omega) | simpa using h_)
          obtain rfl := k71_openM hM13
          have HP13 := (Kd.R_seg HQ12.out (a2 : Int) (of_decide_eq_true (by first | (with_reducible assumption) | assumption)) (by have h_ : (a2 : Int) < ((l0.length : Int) : Int) := of_decide_eq_true (by first | (with_reducible assumption) | assumption); first | exact h_ | (have e_ := (Kd.R_reads' HO0.out).1; omega) | simpa using h_) (seg := [.int .i64 ((rd_T71 l0 a1).f0), .int .i64 ((rd_T71 l0 a1).f1), .int .i64 ((rd_T71 l0 a1).f2)]) (j := 0) hcl13 hcc13 (show 3 ≤ 3 from by decide) (x' := (⟨(rd_T71 l0 a1).f0, (rd_T71 l0 a1).f1, (rd_T71 l0 a1).f2⟩ : S71)) (k71_mkM _ _ _ (⟨(rd_T71 l0 a1).f0, (rd_T71 l0 a1).f1, (rd_T71 l0 a1).f2⟩ : S71) ) (fun _ hk => hk)).1
          rw [← Ny108.out] at HP13
          have HQ13 := Aside0.mk HP13
          clear hcl13 hcc13 hfr13 hM13 HP13
          refine start_ (n := 16) (S := fun w' => w'.cell? ⟨go8, ((a2).toNat * 3), none⟩ = some (.int .i64 ((rd_T71 l0 a2).f0)) ∧ w'.cell? ⟨go8, ((a2).toNat * 3) + 1, none⟩ = some (.int .i64 ((rd_T71 l0 a2).f1)) ∧ w'.cell? ⟨go8, ((a2).toNat * 3) + 2, none⟩ = some (.int .i64 ((rd_T71 l0 a2).f2)) ∧ w'.cell? ⟨go8, ((a1).toNat * 3), none⟩ = some (.int .i64 ((rd_T71 l0 a1).f0)) ∧ w'.cell? ⟨go8, ((a1).toNat * 3) + 1, none⟩ = some (.int .i64 ((rd_T71 l0 a1).f1)) ∧ w'.cell? ⟨go8, ((a1).toNat * 3) + 2, none⟩ = some (.int .i64 ((rd_T71 l0 a1).f2))) (ds := [13, 15]) #[false, false, false, false, false, false, false, false, false, false, false, false, false, false, false, false] (by kernel_rfl) rfl rfl ⟨hx105_0, hx105_1, hx105_2, hx106_0, hx106_1, hx106_2⟩ (fun hHeld => ?_); refine with_tabW norm_claims_Swap.tab0 norm_claims_Swap.bits0 (fun HT_ HW_ => ?_)
          generalize w.drew = w10 at HO0 HK HB GG8 HQ12 HQ13 hf8_0 hf8_1 hf8_2 hf9_0 hf9_1 hf9_2 hx105_0 hx105_1 hx105_2 hx106_0 hx106_1 hx106_2 hx8_0 hx8_1 hx8_2 hx9_0 hx9_1 hx9_2 hHeld ⊢
          obtain ⟨cm_, _, _, _, hm_⟩ := Kd.R_elem HO0.out z71 (a2 : Int) (of_eq_true p9) (of_eq_true q9)
          have hz_0 : World.frozen? _ ⟨go8, (a2).toNat * 3, none⟩ = false := hm_ 0
          have hz_1 : World.frozen? _ ⟨go8, (a2).toNat * 3 + 1, none⟩ = false := hm_ 1
          have hz_2 : World.frozen? _ ⟨go8, (a2).toNat * 3 + 2, none⟩ = false := hm_ 2
          clear hm_
          obtain ⟨um_0_0, em_0_0⟩ := cell?_setCell_some (p := ⟨go8, (a1).toNat * 3, none⟩) (x := .int .i64 ((rd_T71 l0 a2).f0)) hx105_0
          obtain ⟨um_0_1, em_0_1⟩ := cell?_setCell_some (p := ⟨go8, (a1).toNat * 3 + 1, none⟩) (x := .int .i64 ((rd_T71 l0 a2).f1)) em_0_0
          obtain ⟨um_0_2, em_0_2⟩ := cell?_setCell_some (p := ⟨go8, (a1).toNat * 3 + 2, none⟩) (x := .int .i64 ((rd_T71 l0 a2).f2)) em_0_1
          obtain ⟨um_1_0, em_1_0⟩ := cell?_setCell_some (p := ⟨go8, (a1).toNat * 3, none⟩) (x := .int .i64 ((rd_T71 l0 a2).f0)) hx105_1
          obtain ⟨um_1_1, em_1_1⟩ := cell?_setCell_some (p := ⟨go8, (a1).toNat * 3 + 1, none⟩) (x := .int .i64 ((rd_T71 l0 a2).f1)) em_1_0
          obtain ⟨um_1_2, em_1_2⟩ := cell?_setCell_some (p := ⟨go8, (a1).toNat * 3 + 2, none⟩) (x := .int .i64 ((rd_T71 l0 a2).f2)) em_1_1
          obtain ⟨um_2_0, em_2_0⟩ := cell?_setCell_some (p := ⟨go8, (a1).toNat * 3, none⟩) (x := .int .i64 ((rd_T71 l0 a2).f0)) hx105_2
          obtain ⟨um_2_1, em_2_1⟩ := cell?_setCell_some (p := ⟨go8, (a1).toNat * 3 + 1, none⟩) (x := .int .i64 ((rd_T71 l0 a2).f1)) em_2_0
          obtain ⟨um_2_2, em_2_2⟩ := cell?_setCell_some (p := ⟨go8, (a1).toNat * 3 + 2, none⟩) (x := .int .i64 ((rd_T71 l0 a2).f2)) em_2_1
          refine pure_ (i := 0) (N := some 6) (v := ?_) (a' := ?_) #[true, false, false, false, false, false, false, false, false, false, false, false, false, false, false, false] rfl rfl (any_of HT_.out (by kernel_rfl)) (fun _ _ _ h => h) (Or.inl ⟨by rfl, ?_⟩) ?_ ?_
          rotate_left
          · intro w'
            go_simp
            with_reducible rfl
          rotate_left
          · simp only [Act.put, List.setIfInBounds_toArray, List.set_cons_zero, List.set_cons_succ, i64_w, i32_w]
            rfl
          refine pure_ (i := 1) (N := some 7) (v := ?_) (a' := ?_) #[true, true, false, false, false, false, false, false, false, false, false, false, false, false, false, false] rfl rfl (any_of HT_.out (by kernel_rfl)) (fun _ _ _ h => h) (Or.inl ⟨by rfl, ?_⟩) ?_ ?_
          rotate_left
          · intro w'
            go_simp
            with_reducible rfl
          rotate_left
          · simp only [Act.put, List.setIfInBounds_toArray, List.set_cons_zero, List.set_cons_succ, i64_w, i32_w]
            rfl
          refine pure_ (i := 2) (N := some 8) (v := ?_) (a' := ?_) #[true, true, true, false, false, false, false, false, false, false, false, false, false, false, false, false] rfl rfl (any_of HT_.out (by kernel_rfl)) (fun _ _ _ h => h) (Or.inl ⟨by rfl, ?_⟩) ?_ ?_
          rotate_left
          · intro w'
            go_simp
            with_reducible rfl
          rotate_left
          · simp only [Act.put, List.setIfInBounds_toArray, List.set_cons_zero, List.set_cons_succ, i64_w, i32_w]
            rfl
          refine pure_ (i := 3) (N := some 9) (v := ?_) (a' := ?_) #[true, true, true, true, false, false, false, false, false, false, false, false, false, false, false, false] rfl rfl (any_of HT_.out (by kernel_rfl)) (fun _ _ _ h => h) (Or.inl ⟨by rfl, ?_⟩) ?_ ?_
          rotate_left
          · intro w'
            go_simp
            with_reducible rfl
          rotate_left
          · simp only [Act.put, List.setIfInBounds_toArray, List.set_cons_zero, List.set_cons_succ, i64_w, i32_w]
            rfl
          refine pure_ (i := 4) (N := some 10) (v := ?_) (a' := ?_) #[true, true, true, true, true, false, false, false, false, false, false, false, false, false, false, false] rfl rfl (any_of HT_.out (by kernel_rfl)) (fun _ _ _ h => h) (Or.inl ⟨by rfl, ?_⟩) ?_ ?_
          rotate_left
          · intro w'
            go_simp
            with_reducible rfl
          rotate_left
          · simp only [Act.put, List.setIfInBounds_toArray, List.set_cons_zero, List.set_cons_succ, i64_w, i32_w]
            rfl
          refine pure_ (i := 5) (N := some 11) (v := ?_) (a' := ?_) #[true, true, true, true, true, true, false, false, false, false, false, false, false, false, false, false] rfl rfl (any_of HT_.out (by kernel_rfl)) (fun _ _ _ h => h) (Or.inl ⟨by rfl, ?_⟩) ?_ ?_
          rotate_left
          · intro w'
            go_simp
            with_reducible rfl
          rotate_left
          · simp only [Act.put, List.setIfInBounds_toArray, List.set_cons_zero, List.set_cons_succ, i64_w, i32_w]
            rfl
          refine pure_ (i := 6) (N := some 12) (v := ?_) (a' := ?_) #[true, true, true, true, true, true, true, false, false, false, false, false, false, false, false, false] rfl rfl (any_of HT_.out (by kernel_rfl)) (fun _ _ _ h => h) (Or.inl ⟨by rfl, ?_⟩) ?_ ?_
          rotate_left
          · intro w'
            go_simp
            with_reducible rfl
          rotate_left
          · simp only [Act.put, List.setIfInBounds_toArray, List.set_cons_zero, List.set_cons_succ, i64_w, i32_w]
            rfl
          refine pure_ (i := 8) (N := some 14) (v := ?_) (a' := ?_) #[true, true, true, true, true, true, true, false, true, false, false, false, false, false, false, false] rfl rfl (any_of HT_.out (by kernel_rfl)) (fun _ _ _ h => h) (Or.inl ⟨by rfl, ?_⟩) ?_ ?_
          rotate_left
          · intro w'
            go_simp
            with_reducible rfl
          rotate_left
          · simp only [Act.put, List.setIfInBounds_toArray, List.set_cons_zero, List.set_cons_succ, i64_w, i32_w]
            rfl
          refine pure_ (i := 9) (N := some 15) (v := ?_) (a' := ?_) #[true, true, true, true, true, true, true, false, true, true, false, false, false, false, false, false] rfl rfl (any_of HT_.out (by kernel_rfl)) (fun _ _ _ h => h) (Or.inl ⟨by rfl, ?_⟩) ?_ ?_
          rotate_left
          · intro w'
            go_simp
            with_reducible rfl
          rotate_left
          · simp only [Act.put, List.setIfInBounds_toArray, List.set_cons_zero, List.set_cons_succ, i64_w, i32_w]
            rfl
          refine pure_ (i := 10) (N := some 16) (v := ?_) (a' := ?_) #[true, true, true, true, true, true, true, false, true, true, true, false, false, false, false, false] rfl rfl (any_of HT_.out (by kernel_rfl)) (fun _ _ _ h => h) (Or.inl ⟨by rfl, ?_⟩) ?_ ?_
          rotate_left
          · intro w'
            go_simp
            with_reducible rfl
          rotate_left
          · simp only [Act.put, List.setIfInBounds_toArray, List.set_cons_zero, List.set_cons_succ, i64_w, i32_w]
            rfl
          refine take_ (i := 7) (N := some 13) (v := ?_) (a' := ?_) #[true, true, true, true, true, true, true, true, true, true, true, false, false, false, false, false] rfl rfl (take_ofW HT_.out HW_.out (by kernel_rfl)) (fun _ _ _ h => h) (Or.inl ⟨by rfl, ?_⟩) hHeld ?_ ?_
          rotate_left
          · rintro w' ⟨s0, s1, s2, s3, s4, s5⟩
            go_simp
            with_reducible rfl
          rotate_left
          · simp only [Act.put, List.setIfInBounds_toArray, List.set_cons_zero, List.set_cons_succ, i64_w, i32_w]
            rfl
          refine take_ (i := 11) (N := some 17) (v := ?_) (a' := ?_) #[true, true, true, true, true, true, true, true, true, true, true, true, false, false, false, false] rfl rfl (take_ofW HT_.out HW_.out (by kernel_rfl)) (fun _ _ _ h => h) (Or.inl ⟨by rfl, ?_⟩) hHeld ?_ ?_
          rotate_left
          · rintro w' ⟨s0, s1, s2, s3, s4, s5⟩
            go_simp
            with_reducible rfl
          rotate_left
          · simp only [Act.put, List.setIfInBounds_toArray, List.set_cons_zero, List.set_cons_succ, i64_w, i32_w]
            rfl
          refine pure_ (i := 12) (N := some 18) (v := ?_) (a' := ?_) #[true, true, true, true, true, true, true, true, true, true, true, true, true, false, false, false] rfl rfl (any_of HT_.out (by kernel_rfl)) (fun _ _ _ h => h) (Or.inl ⟨by rfl, ?_⟩) ?_ ?_
          rotate_left
          · intro w'
            go_simp
            with_reducible rfl
          rotate_left
          · simp only [Act.put, List.setIfInBounds_toArray, List.set_cons_zero, List.set_cons_succ, i64_w, i32_w]
            rfl
          refine last_ (i := 13) (N := none) #[true, true, true, true, true, true, true, true, true, true, true, true, true, true, false, false] rfl rfl (one_of HT_.out (by kernel_rfl)) (by decide) (fun K hK => ?_)
          refine skip_ (w1 := ?_) (by rfl) rfl ?_ ?_
          rotate_left
          · go_simp
            rfl
          refine hK.out _ _ ?_
          clear hK K
          refine pure_ (i := 14) (N := some 19) (v := ?_) (a' := ?_) #[true, true, true, true, true, true, true, true, true, true, true, true, true, true, true, false] rfl rfl (any_of HT_.out (by kernel_rfl)) (fun _ _ _ h => h) (Or.inl ⟨by rfl, ?_⟩) ?_ ?_
          rotate_left
          · intro w'
            go_simp
            with_reducible rfl
          rotate_left
          · simp only [Act.put, List.setIfInBounds_toArray, List.set_cons_zero, List.set_cons_succ, i64_w, i32_w]
            rfl
          refine last_ (i := 15) (N := none) #[true, true, true, true, true, true, true, true, true, true, true, true, true, true, true, true] rfl rfl (one_of HT_.out (by kernel_rfl)) (by decide) (fun K hK => ?_)
          refine skip_ (w1 := ?_) (by rfl) rfl ?_ ?_
          rotate_left
          · go_simp
            rfl
          refine hK.out _ _ ?_
          clear hK K
          refine done_ (done_of HT_.out (by kernel_rfl)) ?_
          try go_wp2
          first | go_end0 | ((try simp only [Exit.inBlock, Exit.then]); refine bodyPost_ret (results_none rfl _ _ _) rfl ?_)
          exact ⟨by first | rfl | (simp [errW_none, errW_some] <;> rfl) | (simp [*, errW_none, errW_some] <;> rfl), by (with_reducible repeat (first | apply Kd.R_alloc | apply Kd.R_drewN | apply Kd.R_drew)); exact HQ13.out, by repeat (first | (with_reducible first | exact HB.out | apply below_alloc | apply pw_below_drewN | apply below_drew1 | refine below_set ?_ GB8.out | refine below_set ?_ GB8.out | refine below_set ?_ GB8.out | refine below_set ?_ GB8.out | refine below_set ?_ GB8.out | refine below_set ?_ GB8.out) | exact HB.out), by repeat (first | (with_reducible first | exact HK.out | apply Kept.alloc | apply Kept.drewN | apply Kept.drew | refine Kept.setCell ?_ HMgo8.out _ | refine Kept.setCell ?_ HMgo8.out _ | refine Kept.setCell ?_ HMgo8.out _ | refine Kept.setCell ?_ HMgo8.out _ | refine Kept.setCell ?_ HMgo8.out _ | refine Kept.setCell ?_ HMgo8.out _) | exact HK.out)⟩
        · rw [if_neg c7] at H
          exact absurd H (by simp)
      · rw [if_neg c6] at H
        exact absurd H (by simp)
    · rw [if_neg c5] at H
      exact absurd H (by simp)
  · rw [if_neg c4] at H
    exact absurd H (by simp)

/-! ### ctx_At: function 29 -/
def ctx_At.j0 : Nat → List Int → Int → Bool → Option (Int)
  | 0, _, _, _ => none
  | k + 1, x0, x1, x5 => if x5 = true then (some (-1)) else (if x1 = 0 then (some 0) else (if 0 ≤ (wrap64 (x1 - 1)) then (if (wrap64 (x1 - 1)) < (x0.length : Int) then (some (wrap64 (rd x0 (wrap64 (x1 - 1))))) else (none)) else (none)))
def ctx_At.f (k : Nat) (l0 : List Int) (a1 : Int) : Option (Int) := if a1 < 0 then (ctx_At.j0 k l0 a1 true) else (ctx_At.j0 k l0 a1 (decide (a1 ≥ (l0.length : Int))))
theorem ctx_At.mono_l : ∀ k, (∀ y0 y1 y2, LeO (ctx_At.j0 k y0 y1 y2) (ctx_At.j0 (k + 1) y0 y1 y2))
  | 0 => fun _ _ _ r h => by simp [ctx_At.j0] at h
  | k + 1 => by
    have ih0 := ctx_At.mono_l k
    · intro y0 y1 y2
      unfold ctx_At.j0
      repeat' first
      | (with_reducible exact ih0 _ _ _)
      | (with_reducible exact LeO.refl _)
      | (with_reducible exact LeO.none _)
      | (with_reducible refine LeO.ite ?_ ?_)
      | (with_reducible refine LeO.bind ?_ (fun _ => ?_))
      | exact ih0 _ _ _
      | exact LeO.none _
      | refine LeO.ite ?_ ?_
      | refine LeO.bind ?_ (fun _ => ?_)
theorem ctx_At.mono : ∀ a0 a1 k, LeO (ctx_At.f k a0 a1) (ctx_At.f (k + 1) a0 a1) := by
  intro a0 a1 k
  have ih0 := ctx_At.mono_l k
  unfold ctx_At.f
  repeat' first
      | (with_reducible exact ih0 _ _ _)
      | (with_reducible exact LeO.refl _)
      | (with_reducible exact LeO.none _)
      | (with_reducible refine LeO.ite ?_ ?_)
      | (with_reducible refine LeO.bind ?_ (fun _ => ?_))
      | exact ih0 _ _ _
      | exact LeO.none _
      | refine LeO.ite ?_ ?_
      | refine LeO.bind ?_ (fun _ => ?_)
set_option maxHeartbeats 8000000 in
set_option maxRecDepth 100000 in
theorem ctx_At.calls (k : Nat) (A0 : Option Addr) (c0 : Nat) (l0 : List Int) (a1 : Int) (r : Int) (w : World) (hr0 : Kd.C (Kd.int .u8) w A0 l0.length l0) (hc0 : l0.length ≤ c0) (h : ctx_At.f k l0 a1 = some r) :
    Calls Try.prog 29 #[.slice A0 l0.length c0, .int .i64 a1] w fun e w' => e = .returned (.int .i64 r) ∧ Drawn0 w w' := by
  have HR0 := Aside0.mk hr0
  have HC0 := Aside0.mk hc0
  clear hr0 hc0
  have H : (if a1 < 0 then (ctx_At.j0 k l0 a1 true) else (ctx_At.j0 k l0 a1 (decide (a1 ≥ (l0.length : Int))))) = some r := h
  clear h
  have HC3 := Aside0.mk H
  clear H
  go_enter Try.func29, Try.ntmps29
  go_upto_region 1 with (fail)
  go_cut [5] (fun v5 wc => ∃ (kq : Nat) (x5_2 : Bool), v5 = .bool x5_2 ∧ Aside0 (ctx_At.j0 kq l0 a1 x5_2 = some r) ∧ Aside0 (kq ≤ k) ∧ Drawn0 w wc)
  case first =>
    have H := HC3.out
    clear HC3
    by_cases c4 : a1 < 0
    · rw [if_pos c4] at H
      have c4b0 : decide (a1 < 0) = true := decide_eq_true c4
      clear c4
      (first | rw [c4b0] | (simp only [i64_w, i32_w]; rw [c4b0]) | skip)
      have H' := Aside0.mk H
      clear H
      go_wp2
      go_meet
      case rel => exact ⟨_, (true), (by first | rfl | (simp; done) | (simp [*]; done)), H', ⟨by first | omega | exact Nat.le_refl _⟩, by repeat (first | exact Drawn0.refl _ | apply Drawn0.step)⟩
    · rw [if_neg c4] at H
      have c4b0 : decide (a1 < 0) = false := decide_eq_false c4
      clear c4
      (first | rw [c4b0] | (simp only [i64_w, i32_w]; rw [c4b0]) | skip)
      have H' := Aside0.mk H
      clear H
      go_wp2
      go_meet
      case rel => exact ⟨_, (decide (a1 ≥ (l0.length : Int))), (by first | rfl | (simp; done) | (simp [*]; done)), H', ⟨by first | omega | exact Nat.le_refl _⟩, by repeat (first | exact Drawn0.refl _ | apply Drawn0.step)⟩
  case rest =>
    clear HC3
    try clear c2
    try clear p2
    try clear c4
    try clear c4b0
    obtain ⟨kq, x5_2, rfl, HA, HJ2, ⟨mc2, rfl⟩⟩ := hcut
    cases kq with
    | zero => exact absurd HA.out (by simp [ctx_At.j0])
    | succ kj2 =>
      have H := HA.out
      clear HA
      simp only [ctx_At.j0] at H
      by_cases c5 : x5_2 = true
      · subst c5
        have H1 : (some (-1)) = some r := by rw [if_pos rfl] at H; exact H
        clear H
        have H := H1
        clear H1
        obtain rfl := Option.some.inj H
        go_wp2
        go_ret
        exact ⟨by first | rfl | (simp; done) | (simp [*]; done), by repeat (first | exact Drawn0.refl _ | apply Drawn0.step)⟩
      · replace c5 := Bool.eq_false_iff.mpr c5
        subst c5
        have H1 : (if a1 = 0 then (some 0) else (if 0 ≤ (wrap64 (a1 - 1)) then (if (wrap64 (a1 - 1)) < (l0.length : Int) then (some (wrap64 (rd l0 (wrap64 (a1 - 1))))) else (none)) else (none))) = some r := by rw [if_neg (show ¬ (false = true) by decide)] at H; exact H
        clear H
        have H := H1
        clear H1
        by_cases c6 : a1 = 0
        · rw [if_pos c6] at H
          have c6b0 : (a1 == 0) = true := beq_iff_eq.mpr c6
          have c6b1 : (a1 != 0) = false := bne_eq_false_iff_eq.mpr c6
          clear c6
          obtain rfl := Option.some.inj H
          go_wp2
          go_ret
          exact ⟨by first | rfl | (simp; done) | (simp [*]; done), by repeat (first | exact Drawn0.refl _ | apply Drawn0.step)⟩
        · rw [if_neg c6] at H
          have c6b0 : (a1 == 0) = false := beq_eq_false_iff_ne.mpr c6
          have c6b1 : (a1 != 0) = true := bne_iff_ne.mpr c6
          obtain ⟨ji7, hji7⟩ : ∃ j_ : Int, (wrap64 (a1 - 1)) = j_ := ⟨_, rfl⟩
          replace H : (if 0 ≤ (ji7) then (if (ji7) < (l0.length : Int) then (some (wrap64 (rd l0 (ji7)))) else (none)) else (none)) = some r := by first | (rw [hji7] at H; exact H) | (simp only [hji7] at H ⊢; exact H)
          have hji7w : (IntKind.i64.wrap (a1 - 1)) = ji7 := (i64_w _).trans hji7
          by_cases c8 : 0 ≤ (ji7)
          · rw [if_pos c8] at H
            have c8b0 : decide (0 ≤ (ji7)) = true := decide_eq_true c8
            clear c8
            by_cases c9 : (ji7) < (l0.length : Int)
            · rw [if_pos c9] at H
              have c9b0 : decide ((ji7) < (l0.length : Int)) = true := decide_eq_true c9
              clear c9
              obtain rfl := Option.some.inj H
              have p109 : 0 ≤ ((ji7) : Int) := of_decide_eq_true (by first | (with_reducible assumption) | assumption)
              have q109 : (ji7) < (l0.length : Int) := of_decide_eq_true (by first | (with_reducible assumption) | assumption)
              obtain ⟨ad109, e109, hx109_0⟩ := Kd.at_int HR0.out (ji7) p109 q109
              cases e109
              replace p109 := eq_true p109
              replace q109 := eq_true q109
              go_wp2
              go_ret
              exact ⟨by first | rfl | (simp; done) | (simp only [← hji7] <;> (first | rfl | simp)) | (simp [*]; done), by repeat (first | exact Drawn0.refl _ | apply Drawn0.step)⟩
            · rw [if_neg c9] at H
              exact absurd H (by simp)
          · rw [if_neg c8] at H
            exact absurd H (by simp)

/-! ### hist_Right: function 46 -/
def hist_Right.l0 : Nat → List Int → Int → List Int → Int → Int → Option (Bool)
  | 0, _, _, _, _, _ => none
  | k + 1, x0, x3, x6, x7, x8 => if x8 < x7 then (if 0 ≤ x8 then (if x8 < (x6.length : Int) then (if (rd x6 x8) < 0 then (some false) else (if (rd x6 x8) > (wrap64 (1073741824 - x3)) then (some false) else (hist_Right.l0 k x0 (wrap64 (x3 + (rd x6 x8))) x6 x7 (wrap64 (x8 + 1))))) else (none)) else (none)) else (some ((x0.length : Int) == 256))
def hist_Right.f (k : Nat) (l0 : List Int) : Option (Bool) := hist_Right.l0 k l0 0 l0 (l0.length : Int) 0
theorem hist_Right.mono_l : ∀ k, (∀ y0 y1 y2 y3 y4, LeO (hist_Right.l0 k y0 y1 y2 y3 y4) (hist_Right.l0 (k + 1) y0 y1 y2 y3 y4))
  | 0 => fun _ _ _ _ _ r h => by simp [hist_Right.l0] at h
  | k + 1 => by
    have ih0 := hist_Right.mono_l k
    · intro y0 y1 y2 y3 y4
      unfold hist_Right.l0
      repeat' first
      | (with_reducible exact ih0 _ _ _ _ _)
      | (with_reducible exact LeO.refl _)
      | (with_reducible exact LeO.none _)
      | (with_reducible refine LeO.ite ?_ ?_)
      | (with_reducible refine LeO.bind ?_ (fun _ => ?_))
      | exact ih0 _ _ _ _ _
      | exact LeO.none _
      | refine LeO.ite ?_ ?_
      | refine LeO.bind ?_ (fun _ => ?_)
theorem hist_Right.mono : ∀ a0 k, LeO (hist_Right.f k a0) (hist_Right.f (k + 1) a0) := by
  intro a0 k
  have ih0 := hist_Right.mono_l k
  unfold hist_Right.f
  repeat' first
      | (with_reducible exact ih0 _ _ _ _ _)
      | (with_reducible exact LeO.refl _)
      | (with_reducible exact LeO.none _)
      | (with_reducible refine LeO.ite ?_ ?_)
      | (with_reducible refine LeO.bind ?_ (fun _ => ?_))
      | exact ih0 _ _ _ _ _
      | exact LeO.none _
      | refine LeO.ite ?_ ?_
      | refine LeO.bind ?_ (fun _ => ?_)
set_option maxHeartbeats 8000000 in
set_option maxRecDepth 100000 in
theorem hist_Right.calls (k : Nat) (A0 : Option Addr) (c0 : Nat) (l0 : List Int) (r : Bool) (w : World) (hr0 : Kd.C (Kd.int .i64) w A0 l0.length l0) (hc0 : l0.length ≤ c0) (h : hist_Right.f k l0 = some r) :
    Calls Try.prog 46 #[.slice A0 l0.length c0] w fun e w' => e = .returned (.bool r) ∧ Drawn0 w w' := by
  have HR0 := Aside0.mk hr0
  have HC0 := Aside0.mk hc0
  clear hr0 hc0
  have H : (hist_Right.l0 k l0 0 l0 (l0.length : Int) 0) = some r := h
  clear h
  have H' := Aside0.mk H
  clear H
  go_enter Try.func46, Try.ntmps46
  go_wp2
  go_loopg [3, 8] k (fun kq v3 v8 w' => ∃ (x3_1 : Int) (x8_1 : Int), v3 = .int .i64 x3_1 ∧ v8 = .int .i64 x8_1 ∧ Aside0 (hist_Right.l0 kq l0 x3_1 l0 (l0.length : Int) x8_1 = some r) ∧ Aside0 (kq ≤ k) ∧ Drawn0 w w')
  case atStart => exact ⟨(0), (0), (by first | rfl | (simp; done) | (simp [*]; done)), (by first | rfl | (simp; done) | (simp [*]; done)), H', ⟨Nat.le_refl _⟩, by repeat (first | exact Drawn0.refl _ | apply Drawn0.step)⟩
  case round =>
    clear H'
    obtain ⟨x3_1, x8_1, rfl, rfl, HA, HK1, ⟨m1, rfl⟩⟩ := hrel
    cases gk with
    | zero => exact absurd HA.out (by simp [hist_Right.l0])
    | succ k1 =>
      have H := HA.out
      clear HA
      simp only [hist_Right.l0] at H
      by_cases c2 : x8_1 < (l0.length : Int)
      · rw [if_pos c2] at H
        have c2b0 : decide (x8_1 < (l0.length : Int)) = true := decide_eq_true c2
        clear c2
        by_cases c3 : 0 ≤ x8_1
        · rw [if_pos c3] at H
          have c3b0 : decide (0 ≤ x8_1) = true := decide_eq_true c3
          clear c3
          by_cases c4 : x8_1 < (l0.length : Int)
          · rw [if_pos c4] at H
            have c4b0 : decide (x8_1 < (l0.length : Int)) = true := decide_eq_true c4
            clear c4
            by_cases c5 : (rd l0 x8_1) < 0
            · rw [if_pos c5] at H
              have c5b0 : decide ((rd l0 x8_1) < 0) = true := decide_eq_true c5
              clear c5
              obtain rfl := Option.some.inj H
              have p110 : 0 ≤ (x8_1 : Int) := of_decide_eq_true (by first | (with_reducible assumption) | assumption)
              have q110 : x8_1 < (l0.length : Int) := of_decide_eq_true (by first | (with_reducible assumption) | assumption)
              obtain ⟨ad110, e110, hx110_0⟩ := Kd.at_int HR0.out x8_1 p110 q110
              cases e110
              replace p110 := eq_true p110
              replace q110 := eq_true q110
              go_wp2
              go_ret
              exact ⟨by first | rfl | (simp; done) | (simp [*]; done), by repeat (first | exact Drawn0.refl _ | apply Drawn0.step)⟩
            · rw [if_neg c5] at H
              have c5b0 : decide ((rd l0 x8_1) < 0) = false := decide_eq_false c5
              clear c5
              by_cases c6 : (rd l0 x8_1) > (wrap64 (1073741824 - x3_1))
              · rw [if_pos c6] at H
                have c6b0 : decide ((wrap64 (1073741824 - x3_1)) < (rd l0 x8_1)) = true := decide_eq_true c6
                clear c6
                obtain rfl := Option.some.inj H
                have p110 : 0 ≤ (x8_1 : Int) := of_decide_eq_true (by first | (with_reducible assumption) | assumption)
                have q110 : x8_1 < (l0.length : Int) := of_decide_eq_true (by first | (with_reducible assumption) | assumption)
                obtain ⟨ad110, e110, hx110_0⟩ := Kd.at_int HR0.out x8_1 p110 q110
                cases e110
                replace p110 := eq_true p110
                replace q110 := eq_true q110
                go_wp2
                go_ret
                exact ⟨by first | rfl | (simp; done) | (simp [*]; done), by repeat (first | exact Drawn0.refl _ | apply Drawn0.step)⟩
              · rw [if_neg c6] at H
                have c6b0 : decide ((wrap64 (1073741824 - x3_1)) < (rd l0 x8_1)) = false := decide_eq_false c6
                clear c6
                have H' := Aside0.mk H
                clear H
                have p110 : 0 ≤ (x8_1 : Int) := of_decide_eq_true (by first | (with_reducible assumption) | assumption)
                have q110 : x8_1 < (l0.length : Int) := of_decide_eq_true (by first | (with_reducible assumption) | assumption)
                obtain ⟨ad110, e110, hx110_0⟩ := Kd.at_int HR0.out x8_1 p110 q110
                cases e110
                replace p110 := eq_true p110
                replace q110 := eq_true q110
                go_wp2
                go_roundg k1
                case measure => have := HK1.out; omega
                case rel => exact ⟨(wrap64 (x3_1 + (rd l0 x8_1))), (wrap64 (x8_1 + 1)), (by first | rfl | (simp; done) | (simp [*]; done)), (by first | rfl | (simp; done) | (simp [*]; done)), H', ⟨by have := HK1.out; omega⟩, by repeat (first | exact Drawn0.refl _ | apply Drawn0.step)⟩
          · rw [if_neg c4] at H
            exact absurd H (by simp)
        · rw [if_neg c3] at H
          exact absurd H (by simp)
      · rw [if_neg c2] at H
        have c2b0 : decide (x8_1 < (l0.length : Int)) = false := decide_eq_false c2
        clear c2
        obtain rfl := Option.some.inj H
        go_wp2
        go_ret
        exact ⟨by first | rfl | (simp; done) | (simp [*]; done), by repeat (first | exact Drawn0.refl _ | apply Drawn0.step)⟩

/-! ### hist_Many: function 33 -/
def hist_Many.l0 : Nat → List Int → Int → List Int → Int → Int → Option (Int)
  | 0, _, _, _, _, _ => none
  | k + 1, x0, x3, x6, x7, x8 => if x8 < x7 then (if 0 ≤ x8 then (if x8 < (x6.length : Int) then (if (rd x6 x8) > 0 then ((hist_Right.f k x0).bind fun t112 => (if t112 = true then (hist_Many.l0 k x0 (wrap64 (x3 + 1)) x6 x7 (wrap64 (x8 + 1))) else (hist_Many.l0 k x0 x3 x6 x7 (wrap64 (x8 + 1))))) else (hist_Many.l0 k x0 x3 x6 x7 (wrap64 (x8 + 1)))) else (none)) else (none)) else (some x3)
def hist_Many.f (k : Nat) (l0 : List Int) : Option (Int) := hist_Many.l0 k l0 0 l0 (l0.length : Int) 0
theorem hist_Many.mono_l : ∀ k, (∀ y0 y1 y2 y3 y4, LeO (hist_Many.l0 k y0 y1 y2 y3 y4) (hist_Many.l0 (k + 1) y0 y1 y2 y3 y4))
  | 0 => fun _ _ _ _ _ r h => by simp [hist_Many.l0] at h
  | k + 1 => by
    have ih0 := hist_Many.mono_l k
    · intro y0 y1 y2 y3 y4
      unfold hist_Many.l0
      repeat' first
      | (with_reducible exact ih0 _ _ _ _ _)
      | (with_reducible exact hist_Right.mono _ _)
      | (with_reducible exact LeO.refl _)
      | (with_reducible exact LeO.none _)
      | (with_reducible refine LeO.ite ?_ ?_)
      | (with_reducible refine LeO.bind ?_ (fun _ => ?_))
      | exact ih0 _ _ _ _ _
      | exact hist_Right.mono _ _
      | exact LeO.none _
      | refine LeO.ite ?_ ?_
      | refine LeO.bind ?_ (fun _ => ?_)
theorem hist_Many.mono : ∀ a0 k, LeO (hist_Many.f k a0) (hist_Many.f (k + 1) a0) := by
  intro a0 k
  have ih0 := hist_Many.mono_l k
  unfold hist_Many.f
  repeat' first
      | (with_reducible exact ih0 _ _ _ _ _)
      | (with_reducible exact hist_Right.mono _ _)
      | (with_reducible exact LeO.refl _)
      | (with_reducible exact LeO.none _)
      | (with_reducible refine LeO.ite ?_ ?_)
      | (with_reducible refine LeO.bind ?_ (fun _ => ?_))
      | exact ih0 _ _ _ _ _
      | exact hist_Right.mono _ _
      | exact LeO.none _
      | refine LeO.ite ?_ ?_
      | refine LeO.bind ?_ (fun _ => ?_)
set_option maxHeartbeats 8000000 in
set_option maxRecDepth 100000 in
theorem hist_Many.calls (k : Nat) (A0 : Option Addr) (c0 : Nat) (l0 : List Int) (r : Int) (w : World) (hr0 : Kd.C (Kd.int .i64) w A0 l0.length l0) (hc0 : l0.length ≤ c0) (h : hist_Many.f k l0 = some r) :
    Calls Try.prog 33 #[.slice A0 l0.length c0] w fun e w' => e = .returned (.int .i64 r) ∧ Drawn0 w w' := by
  have HR0 := Aside0.mk hr0
  have HC0 := Aside0.mk hc0
  clear hr0 hc0
  have H : (hist_Many.l0 k l0 0 l0 (l0.length : Int) 0) = some r := h
  clear h
  have H' := Aside0.mk H
  clear H
  go_enter Try.func33, Try.ntmps33
  go_wp2
  go_loopg [3, 8] k (fun kq v3 v8 w' => ∃ (x3_1 : Int) (x8_1 : Int), v3 = .int .i64 x3_1 ∧ v8 = .int .i64 x8_1 ∧ Aside0 (hist_Many.l0 kq l0 x3_1 l0 (l0.length : Int) x8_1 = some r) ∧ Aside0 (kq ≤ k) ∧ Drawn0 w w')
  case atStart => exact ⟨(0), (0), (by first | rfl | (simp; done) | (simp [*]; done)), (by first | rfl | (simp; done) | (simp [*]; done)), H', ⟨Nat.le_refl _⟩, by repeat (first | exact Drawn0.refl _ | apply Drawn0.step)⟩
  case round =>
    clear H'
    obtain ⟨x3_1, x8_1, rfl, rfl, HA, HK1, ⟨m1, rfl⟩⟩ := hrel
    cases gk with
    | zero => exact absurd HA.out (by simp [hist_Many.l0])
    | succ k1 =>
      have H := HA.out
      clear HA
      simp only [hist_Many.l0] at H
      by_cases c2 : x8_1 < (l0.length : Int)
      · rw [if_pos c2] at H
        have c2b0 : decide (x8_1 < (l0.length : Int)) = true := decide_eq_true c2
        clear c2
        by_cases c3 : 0 ≤ x8_1
        · rw [if_pos c3] at H
          have c3b0 : decide (0 ≤ x8_1) = true := decide_eq_true c3
          clear c3
          by_cases c4 : x8_1 < (l0.length : Int)
          · rw [if_pos c4] at H
            have c4b0 : decide (x8_1 < (l0.length : Int)) = true := decide_eq_true c4
            clear c4
            by_cases c5 : (rd l0 x8_1) > 0
            · rw [if_pos c5] at H
              have c5b0 : decide (0 < (rd l0 x8_1)) = true := decide_eq_true c5
              clear c5
              replace H := Option.bind_eq_some_iff.mp H
              obtain ⟨t112, A60, H⟩ := H
              replace H : (if t112 = true then (hist_Many.l0 k1 l0 (wrap64 (x3_1 + 1)) l0 (l0.length : Int) (wrap64 (x8_1 + 1))) else (hist_Many.l0 k1 l0 x3_1 l0 (l0.length : Int) (wrap64 (x8_1 + 1)))) = some r := H
              have A6 := Aside0.mk A60
              clear A60
              by_cases c7 : t112 = true
              · subst c7
                have H1 : (hist_Many.l0 k1 l0 (wrap64 (x3_1 + 1)) l0 (l0.length : Int) (wrap64 (x8_1 + 1))) = some r := by rw [if_pos rfl] at H; exact H
                clear H
                have H := H1
                clear H1
                have H' := Aside0.mk H
                clear H
                have p111 : 0 ≤ (x8_1 : Int) := of_decide_eq_true (by first | (with_reducible assumption) | assumption)
                have q111 : x8_1 < (l0.length : Int) := of_decide_eq_true (by first | (with_reducible assumption) | assumption)
                obtain ⟨ad111, e111, hx111_0⟩ := Kd.at_int HR0.out x8_1 p111 q111
                cases e111
                replace p111 := eq_true p111
                replace q111 := eq_true q111
                go_wp2_with (first | (go_at_call 46; (with_reducible refine (hist_Right.calls k1 _ _ l0 true _ ?side1 ?side2 A6.out).mono ?_); (case side1 => repeat (first | exact HR0.out | (with_reducible refine Kd.C_alloc ?_ _) | (with_reducible refine Kd.C_drewN ?_ _) | (with_reducible refine Kd.C_drew ?_))); (case side2 => exact HC0.out); rintro e w' ⟨rfl, ⟨nd, rfl⟩⟩))
                go_roundg k1
                case measure => have := HK1.out; omega
                case rel => exact ⟨(wrap64 (x3_1 + 1)), (wrap64 (x8_1 + 1)), (by first | rfl | (simp; done) | (simp [*]; done)), (by first | rfl | (simp; done) | (simp [*]; done)), H', ⟨by have := HK1.out; omega⟩, by repeat (first | exact Drawn0.refl _ | apply Drawn0.step)⟩
              · replace c7 := Bool.eq_false_iff.mpr c7
                subst c7
                have H1 : (hist_Many.l0 k1 l0 x3_1 l0 (l0.length : Int) (wrap64 (x8_1 + 1))) = some r := by rw [if_neg (show ¬ (false = true) by decide)] at H; exact H
                clear H
                have H := H1
                clear H1
                have H' := Aside0.mk H
                clear H
                have p111 : 0 ≤ (x8_1 : Int) := of_decide_eq_true (by first | (with_reducible assumption) | assumption)
                have q111 : x8_1 < (l0.length : Int) := of_decide_eq_true (by first | (with_reducible assumption) | assumption)
                obtain ⟨ad111, e111, hx111_0⟩ := Kd.at_int HR0.out x8_1 p111 q111
                cases e111
                replace p111 := eq_true p111
                replace q111 := eq_true q111
                go_wp2_with (first | (go_at_call 46; (with_reducible refine (hist_Right.calls k1 _ _ l0 false _ ?side1 ?side2 A6.out).mono ?_); (case side1 => repeat (first | exact HR0.out | (with_reducible refine Kd.C_alloc ?_ _) | (with_reducible refine Kd.C_drewN ?_ _) | (with_reducible refine Kd.C_drew ?_))); (case side2 => exact HC0.out); rintro e w' ⟨rfl, ⟨nd, rfl⟩⟩))
                go_roundg k1
                case measure => have := HK1.out; omega
                case rel => exact ⟨(x3_1), (wrap64 (x8_1 + 1)), (by first | rfl | (simp; done) | (simp [*]; done)), (by first | rfl | (simp; done) | (simp [*]; done)), H', ⟨by have := HK1.out; omega⟩, by repeat (first | exact Drawn0.refl _ | apply Drawn0.step)⟩
            · rw [if_neg c5] at H
              have c5b0 : decide (0 < (rd l0 x8_1)) = false := decide_eq_false c5
              clear c5
              have H' := Aside0.mk H
              clear H
              have p111 : 0 ≤ (x8_1 : Int) := of_decide_eq_true (by first | (with_reducible assumption) | assumption)
              have q111 : x8_1 < (l0.length : Int) := of_decide_eq_true (by first | (with_reducible assumption) | assumption)
              obtain ⟨ad111, e111, hx111_0⟩ := Kd.at_int HR0.out x8_1 p111 q111
              cases e111
              replace p111 := eq_true p111
              replace q111 := eq_true q111
              go_wp2
              go_roundg k1
              case measure => have := HK1.out; omega
              case rel => exact ⟨(x3_1), (wrap64 (x8_1 + 1)), (by first | rfl | (simp; done) | (simp [*]; done)), (by first | rfl | (simp; done) | (simp [*]; done)), H', ⟨by have := HK1.out; omega⟩, by repeat (first | exact Drawn0.refl _ | apply Drawn0.step)⟩
          · rw [if_neg c4] at H
            exact absurd H (by simp)
        · rw [if_neg c3] at H
          exact absurd H (by simp)
      · rw [if_neg c2] at H
        have c2b0 : decide (x8_1 < (l0.length : Int)) = false := decide_eq_false c2
        clear c2
        obtain rfl := Option.some.inj H
        go_wp2
        go_ret
        exact ⟨by first | rfl | (simp; done) | (simp [*]; done), by repeat (first | exact Drawn0.refl _ | apply Drawn0.step)⟩

/-! ### hist_Total: function 24 -/
def hist_Total.l0 : Nat → Int → List Int → Int → Int → Option (Int)
  | 0, _, _, _, _ => none
  | k + 1, x3, x9, x10, x11 => if x11 < x10 then (if 0 ≤ x11 then (if x11 < (x9.length : Int) then (hist_Total.l0 k (wrap64 (x3 + (rd x9 x11))) x9 x10 (wrap64 (x11 + 1))) else (none)) else (none)) else (some x3)
def hist_Total.f (k : Nat) (l0 : List Int) : Option (Int) := (hist_Right.f k l0).bind fun t113 => (if t113 = true then (hist_Total.l0 k 0 l0 (l0.length : Int) 0) else (some 0))
theorem hist_Total.mono_l : ∀ k, (∀ y0 y1 y2 y3, LeO (hist_Total.l0 k y0 y1 y2 y3) (hist_Total.l0 (k + 1) y0 y1 y2 y3))
  | 0 => fun _ _ _ _ r h => by simp [hist_Total.l0] at h
  | k + 1 => by
    have ih0 := hist_Total.mono_l k
    · intro y0 y1 y2 y3
      unfold hist_Total.l0
      repeat' first
      | (with_reducible exact ih0 _ _ _ _)
      | (with_reducible exact hist_Right.mono _ _)
      | (with_reducible exact LeO.refl _)
      | (with_reducible exact LeO.none _)
      | (with_reducible refine LeO.ite ?_ ?_)
      | (with_reducible refine LeO.bind ?_ (fun _ => ?_))
      | exact ih0 _ _ _ _
      | exact hist_Right.mono _ _
      | exact LeO.none _
      | refine LeO.ite ?_ ?_
      | refine LeO.bind ?_ (fun _ => ?_)
theorem hist_Total.mono : ∀ a0 k, LeO (hist_Total.f k a0) (hist_Total.f (k + 1) a0) := by
  intro a0 k
  have ih0 := hist_Total.mono_l k
  unfold hist_Total.f
  repeat' first
      | (with_reducible exact ih0 _ _ _ _)
      | (with_reducible exact hist_Right.mono _ _)
      | (with_reducible exact LeO.refl _)
      | (with_reducible exact LeO.none _)
      | (with_reducible refine LeO.ite ?_ ?_)
      | (with_reducible refine LeO.bind ?_ (fun _ => ?_))
      | exact ih0 _ _ _ _
      | exact hist_Right.mono _ _
      | exact LeO.none _
      | refine LeO.ite ?_ ?_
      | refine LeO.bind ?_ (fun _ => ?_)
set_option maxHeartbeats 8000000 in
set_option maxRecDepth 100000 in
theorem hist_Total.calls (k : Nat) (A0 : Option Addr) (c0 : Nat) (l0 : List Int) (r : Int) (w : World) (hr0 : Kd.C (Kd.int .i64) w A0 l0.length l0) (hc0 : l0.length ≤ c0) (h : hist_Total.f k l0 = some r) :
    Calls Try.prog 24 #[.slice A0 l0.length c0] w fun e w' => e = .returned (.int .i64 r) ∧ Drawn0 w w' := by
  have HR0 := Aside0.mk hr0
  have HC0 := Aside0.mk hc0
  clear hr0 hc0
  have H : ((hist_Right.f k l0).bind fun t113 => (if t113 = true then (hist_Total.l0 k 0 l0 (l0.length : Int) 0) else (some 0))) = some r := h
  clear h
  replace H := Option.bind_eq_some_iff.mp H
  obtain ⟨t113, A20, H⟩ := H
  replace H : (if t113 = true then (hist_Total.l0 k 0 l0 (l0.length : Int) 0) else (some 0)) = some r := H
  have A2 := Aside0.mk A20
  clear A20
  by_cases c3 : t113 = true
  · subst c3
    have H1 : (hist_Total.l0 k 0 l0 (l0.length : Int) 0) = some r := by rw [if_pos rfl] at H; exact H
    clear H
    have H := H1
    clear H1
    have H' := Aside0.mk H
    clear H
    go_enter Try.func24, Try.ntmps24
    go_wp2_with (first | ((with_reducible refine gate_callee (f := 46) rfl ?_); refine goesL_ (some 7) rfl rfl Try.func46 (by kernel_rfl) rfl #[.slice A0 l0.length c0] rfl (by (try simp only [List.map_toArray, List.map_cons, List.map_nil]); first | done | rfl | (simp only [List.length_drop, List.length_take]; rfl)) ?_; (with_reducible refine (hist_Right.calls k _ _ l0 true _ ?side1 ?side2 A2.out).mono ?_); (case side1 => repeat (first | exact HR0.out | (with_reducible refine Kd.C_alloc ?_ _) | (with_reducible refine Kd.C_drewN ?_ _) | (with_reducible refine Kd.C_drew ?_))); (case side2 => exact HC0.out); rintro e w' ⟨rfl, ⟨nd, rfl⟩⟩; refine ⟨_, rfl, ?_⟩))
    go_loopg [3, 11] k (fun kq v3 v11 w' => ∃ (x3_1 : Int) (x11_1 : Int), v3 = .int .i64 x3_1 ∧ v11 = .int .i64 x11_1 ∧ Aside0 (hist_Total.l0 kq x3_1 l0 (l0.length : Int) x11_1 = some r) ∧ Aside0 (kq ≤ k) ∧ Drawn0 w w')
    case atStart => exact ⟨(0), (0), (by first | rfl | (simp; done) | (simp [*]; done)), (by first | rfl | (simp; done) | (simp [*]; done)), H', ⟨Nat.le_refl _⟩, by repeat (first | exact Drawn0.refl _ | apply Drawn0.step)⟩
    case round =>
      clear H'
      try clear c2
      try clear p2
      try clear c3
      obtain ⟨x3_1, x11_1, rfl, rfl, HA, HK1, ⟨m1, rfl⟩⟩ := hrel
      cases gk with
      | zero => exact absurd HA.out (by simp [hist_Total.l0])
      | succ k1 =>
        have H := HA.out
        clear HA
        simp only [hist_Total.l0] at H
        by_cases c4 : x11_1 < (l0.length : Int)
        · rw [if_pos c4] at H
          have c4b0 : decide (x11_1 < (l0.length : Int)) = true := decide_eq_true c4
          clear c4
          by_cases c5 : 0 ≤ x11_1
          · rw [if_pos c5] at H
            have c5b0 : decide (0 ≤ x11_1) = true := decide_eq_true c5
            clear c5
            by_cases c6 : x11_1 < (l0.length : Int)
            · rw [if_pos c6] at H
              have c6b0 : decide (x11_1 < (l0.length : Int)) = true := decide_eq_true c6
              clear c6
              have H' := Aside0.mk H
              clear H
              have p114 : 0 ≤ (x11_1 : Int) := of_decide_eq_true (by first | (with_reducible assumption) | assumption)
              have q114 : x11_1 < (l0.length : Int) := of_decide_eq_true (by first | (with_reducible assumption) | assumption)
              obtain ⟨ad114, e114, hx114_0⟩ := Kd.at_int HR0.out x11_1 p114 q114
              cases e114
              replace p114 := eq_true p114
              replace q114 := eq_true q114
              go_wp2
              go_roundg k1
              case measure => have := HK1.out; omega
              case rel => exact ⟨(wrap64 (x3_1 + (rd l0 x11_1))), (wrap64 (x11_1 + 1)), (by first | rfl | (simp; done) | (simp [*]; done)), (by first | rfl | (simp; done) | (simp [*]; done)), H', ⟨by have := HK1.out; omega⟩, by repeat (first | exact Drawn0.refl _ | apply Drawn0.step)⟩
            · rw [if_neg c6] at H
              exact absurd H (by simp)
          · rw [if_neg c5] at H
            exact absurd H (by simp)
        · rw [if_neg c4] at H
          have c4b0 : decide (x11_1 < (l0.length : Int)) = false := decide_eq_false c4
          clear c4
          obtain rfl := Option.some.inj H
          go_wp2
          go_ret
          exact ⟨by first | rfl | (simp; done) | (simp [*]; done), by repeat (first | exact Drawn0.refl _ | apply Drawn0.step)⟩
  · replace c3 := Bool.eq_false_iff.mpr c3
    subst c3
    have H1 : (some 0) = some r := by rw [if_neg (show ¬ (false = true) by decide)] at H; exact H
    clear H
    have H := H1
    clear H1
    obtain rfl := Option.some.inj H
    go_enter Try.func24, Try.ntmps24
    go_wp2_with (first | ((with_reducible refine gate_callee (f := 46) rfl ?_); refine goesL_ (some 7) rfl rfl Try.func46 (by kernel_rfl) rfl #[.slice A0 l0.length c0] rfl (by (try simp only [List.map_toArray, List.map_cons, List.map_nil]); first | done | rfl | (simp only [List.length_drop, List.length_take]; rfl)) ?_; (with_reducible refine (hist_Right.calls k _ _ l0 false _ ?side1 ?side2 A2.out).mono ?_); (case side1 => repeat (first | exact HR0.out | (with_reducible refine Kd.C_alloc ?_ _) | (with_reducible refine Kd.C_drewN ?_ _) | (with_reducible refine Kd.C_drew ?_))); (case side2 => exact HC0.out); rintro e w' ⟨rfl, ⟨nd, rfl⟩⟩; refine ⟨_, rfl, ?_⟩))
    go_ret
    exact ⟨by first | rfl | (simp; done) | (simp [*]; done), by repeat (first | exact Drawn0.refl _ | apply Drawn0.step)⟩

end Go.Proofs.Ytcffmmdgjifaaaa.PPr
