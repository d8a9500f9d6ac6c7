/- The machine's side of this seat's laws: what each function computes, and that its call computes it; written by a program (pr.py over the kit's print.py). -/
import Derived.Test.YtjgmilkgklellaaPPrx0
import Derived.Test.YtjgmilkgklellaaPPrx2
namespace Go.Proofs.Ytjgmilkgklellaa.PPr
open Go.RowKit Go.Proofs.YtjgmilkgklellaaW.PrintWords Go.Proofs.YtjgmilkgklellaaW.PrintLast Go.Proofs.YtjgmilkgklellaaW.PrintMore
attribute [local go_sem] max2_int min2_int max_two min_two max_three min_three max_four min_four   -- for this text's walks alone
set_option linter.unusedVariables false
set_option linter.unusedSimpArgs false

/-! ### spread_keys_Less: function 68 -/
def spread_keys_Less.f (l0 : List (S68)) (a1 : Int) (a2 : Int) : Option (Bool) := if 0 ≤ a1 then (if a1 < (l0.length : Int) then (if 0 ≤ a2 then (if a2 < (l0.length : Int) then ((frac_Cmp.f ((rd_T68 l0 a1).f0) ((rd_T68 l0 a1).f1) ((rd_T68 l0 a1).f2) ((rd_T68 l0 a2).f0) ((rd_T68 l0 a2).f1) ((rd_T68 l0 a2).f2)).bind fun t115 => (some (decide (t115 < 0)))) else (none)) else (none)) else (none)) else (none)
def spread_keys_Less.T1 : Bool × List (List Nat × List Nat) := (true, [([], []), ([], []), ([0, 1], [0, 1]), ([2], [2]), ([], []), ([], []), ([4, 5], [4, 5]), ([6], [6]), ([3, 7], [3, 7]), ([8], [8]), ([9, 8, 0, 1, 2, 3, 4, 5, 6, 7, 8, 9], [9])])
def spread_keys_Less.B1 : List Nat := [0, 0, 3, 7, 0, 0, 48, 112, 255, 511, 1023]
theorem spread_keys_Less.tab1 : rtab .any (opsOf Try.f68 1) = spread_keys_Less.T1 := by kernel_rfl
theorem spread_keys_Less.bits1 : waitsOk spread_keys_Less.T1.2 spread_keys_Less.B1 = true := by kernel_rfl
set_option maxHeartbeats 8000000 in
set_option maxRecDepth 100000 in
theorem spread_keys_Less.calls (A0 : Option Addr) (c0 : Nat) (l0 : List (S68)) (a1 : Int) (a2 : Int) (r : Bool) (w : World) (hr0 : Kd.C k68 w A0 l0.length l0) (hc0 : l0.length ≤ c0) (h : spread_keys_Less.f l0 a1 a2 = some r) :
    Calls Try.prog 68 #[.slice A0 l0.length c0, .int .i64 a1, .int .i64 a2] w fun e w' => e = .returned (.bool r) ∧ Below w.heap.size w w' := by
  have hu68 := Try.underlying68
  have HR0 := Aside0.mk hr0
  have HC0 := Aside0.mk hc0
  clear hr0 hc0
  have HB := Aside0.mk (Below.refl w.heap.size w)
  have H : (if 0 ≤ a1 then (if a1 < (l0.length : Int) then (if 0 ≤ a2 then (if a2 < (l0.length : Int) then ((frac_Cmp.f ((rd_T68 l0 a1).f0) ((rd_T68 l0 a1).f1) ((rd_T68 l0 a1).f2) ((rd_T68 l0 a2).f0) ((rd_T68 l0 a2).f1) ((rd_T68 l0 a2).f2)).bind fun t115 => (some (decide (t115 < 0)))) else (none)) else (none)) else (none)) else (none)) = some r := h
  clear h
  by_cases c4 : 0 ≤ a1
  · rw [if_pos c4] at H
    have c4b0 : decide (0 ≤ a1) = true := decide_eq_true c4
    clear c4
    by_cases c5 : a1 < (l0.length : Int)
    · rw [if_pos c5] at H
      have c5b0 : decide (a1 < (l0.length : Int)) = true := decide_eq_true c5
      clear c5
      by_cases c6 : 0 ≤ a2
      · rw [if_pos c6] at H
        have c6b0 : decide (0 ≤ a2) = true := decide_eq_true c6
        clear c6
        by_cases c7 : a2 < (l0.length : Int)
        · rw [if_pos c7] at H
          have c7b0 : decide (a2 < (l0.length : Int)) = true := decide_eq_true c7
          clear c7
          replace H := Option.bind_eq_some_iff.mp H
          obtain ⟨t115, A80, H⟩ := H
          replace H : (some (decide (t115 < 0))) = some r := H
          have A8 := Aside0.mk A80
          clear A80
          obtain rfl := Option.some.inj H
          go_enter Try.func68, Try.ntmps68
          try go_wp2
          have n0_ := Aside0.mk (below_drew1 HB.out)
          clear HB
          have HB := n0_
          clear n0_
          have p113 : 0 ≤ (a1 : Int) := of_decide_eq_true (by first | (with_reducible assumption) | assumption)
          have q113 : a1 < (l0.length : Int) := of_decide_eq_true (by first | (with_reducible assumption) | assumption)
          obtain ⟨ad113, e113, hx113_0, hx113_1, hx113_2⟩ := at_T68 HR0.out a1 p113 q113
          have hw113_2 := hx113_2
          have hw113_1 := hx113_1
          have hw113_0 := hx113_0
          cases e113
          replace hx113_0 := (HB.out.cell (World.block_lt_of_cell? w _ hx113_0)).trans hx113_0
          replace hx113_1 := (HB.out.cell (World.block_lt_of_cell? w _ hx113_1)).trans hx113_1
          replace hx113_2 := (HB.out.cell (World.block_lt_of_cell? w _ hx113_2)).trans hx113_2
          replace p113 := eq_true p113
          replace q113 := eq_true q113
          have p114 : 0 ≤ (a2 : Int) := of_decide_eq_true (by first | (with_reducible assumption) | assumption)
          have q114 : a2 < (l0.length : Int) := of_decide_eq_true (by first | (with_reducible assumption) | assumption)
          obtain ⟨ad114, e114, hx114_0, hx114_1, hx114_2⟩ := at_T68 HR0.out a2 p114 q114
          have hw114_2 := hx114_2
          have hw114_1 := hx114_1
          have hw114_0 := hx114_0
          obtain rfl : ad113 = ad114 := (by injection e114)
          replace hx114_0 := (HB.out.cell (World.block_lt_of_cell? w _ hx114_0)).trans hx114_0
          replace hx114_1 := (HB.out.cell (World.block_lt_of_cell? w _ hx114_1)).trans hx114_1
          replace hx114_2 := (HB.out.cell (World.block_lt_of_cell? w _ hx114_2)).trans hx114_2
          replace p114 := eq_true p114
          replace q114 := eq_true q114
          refine start_ (n := 11) (S := fun w' => w'.cell? (ad113.add ((a1).toNat * 3)) = some (.int .i64 ((rd_T68 l0 a1).f0)) ∧ w'.cell? ⟨(ad113.add ((a1).toNat * 3)).block, (ad113.add ((a1).toNat * 3)).off + 1, none⟩ = some (.int .i64 ((rd_T68 l0 a1).f1)) ∧ w'.cell? ⟨(ad113.add ((a1).toNat * 3)).block, (ad113.add ((a1).toNat * 3)).off + 2, none⟩ = some (.int .i64 ((rd_T68 l0 a1).f2)) ∧ w'.cell? (ad113.add ((a2).toNat * 3)) = some (.int .i64 ((rd_T68 l0 a2).f0)) ∧ w'.cell? ⟨(ad113.add ((a2).toNat * 3)).block, (ad113.add ((a2).toNat * 3)).off + 1, none⟩ = some (.int .i64 ((rd_T68 l0 a2).f1)) ∧ w'.cell? ⟨(ad113.add ((a2).toNat * 3)).block, (ad113.add ((a2).toNat * 3)).off + 2, none⟩ = some (.int .i64 ((rd_T68 l0 a2).f2))) (ds := []) #[false, false, false, false, false, false, false, false, false, false, false] (by kernel_rfl) rfl rfl ⟨((HB.out.cell (World.block_lt_of_cell? w _ hw113_0)).trans hw113_0), ((HB.out.cell (World.block_lt_of_cell? w _ hw113_1)).trans hw113_1), ((HB.out.cell (World.block_lt_of_cell? w _ hw113_2)).trans hw113_2), ((HB.out.cell (World.block_lt_of_cell? w _ hw114_0)).trans hw114_0), ((HB.out.cell (World.block_lt_of_cell? w _ hw114_1)).trans hw114_1), ((HB.out.cell (World.block_lt_of_cell? w _ hw114_2)).trans hw114_2)⟩ (fun hHeld => ?_); refine with_tabW spread_keys_Less.tab1 spread_keys_Less.bits1 (fun HT_ HW_ => ?_)
          generalize w.drew = w9 at HB hx113_0 hx113_1 hx113_2 hx114_0 hx114_1 hx114_2 hHeld ⊢
          refine pure_ (i := 0) (N := some 7) (v := ?_) (a' := ?_) #[true, false, false, false, false, false, false, false, false, false, false] rfl rfl (any_of HT_.out (by kernel_rfl)) (fun _ _ _ h => h) (Or.inl ⟨by rfl, ?_⟩) ?_ ?_
          rotate_left
          · intro w'
            go_simp
            with_reducible rfl
          rotate_left
          · simp only [Act.put, List.setIfInBounds_toArray, List.set_cons_zero, List.set_cons_succ, i64_w, i32_w]
            rfl
          refine pure_ (i := 1) (N := some 8) (v := ?_) (a' := ?_) #[true, true, false, false, false, false, false, false, false, false, false] rfl rfl (any_of HT_.out (by kernel_rfl)) (fun _ _ _ h => h) (Or.inl ⟨by rfl, ?_⟩) ?_ ?_
          rotate_left
          · intro w'
            go_simp
            with_reducible rfl
          rotate_left
          · simp only [Act.put, List.setIfInBounds_toArray, List.set_cons_zero, List.set_cons_succ, i64_w, i32_w]
            rfl
          refine pure_ (i := 2) (N := some 9) (v := ?_) (a' := ?_) #[true, true, true, false, false, false, false, false, false, false, false] rfl rfl (any_of HT_.out (by kernel_rfl)) (fun _ _ _ h => h) (Or.inl ⟨by rfl, ?_⟩) ?_ ?_
          rotate_left
          · intro w'
            go_simp
            with_reducible rfl
          rotate_left
          · simp only [Act.put, List.setIfInBounds_toArray, List.set_cons_zero, List.set_cons_succ, i64_w, i32_w]
            rfl
          refine pure_ (i := 4) (N := some 11) (v := ?_) (a' := ?_) #[true, true, true, false, true, false, false, false, false, false, false] rfl rfl (any_of HT_.out (by kernel_rfl)) (fun _ _ _ h => h) (Or.inl ⟨by rfl, ?_⟩) ?_ ?_
          rotate_left
          · intro w'
            go_simp
            with_reducible rfl
          rotate_left
          · simp only [Act.put, List.setIfInBounds_toArray, List.set_cons_zero, List.set_cons_succ, i64_w, i32_w]
            rfl
          refine pure_ (i := 5) (N := some 12) (v := ?_) (a' := ?_) #[true, true, true, false, true, true, false, false, false, false, false] rfl rfl (any_of HT_.out (by kernel_rfl)) (fun _ _ _ h => h) (Or.inl ⟨by rfl, ?_⟩) ?_ ?_
          rotate_left
          · intro w'
            go_simp
            with_reducible rfl
          rotate_left
          · simp only [Act.put, List.setIfInBounds_toArray, List.set_cons_zero, List.set_cons_succ, i64_w, i32_w]
            rfl
          refine pure_ (i := 6) (N := some 13) (v := ?_) (a' := ?_) #[true, true, true, false, true, true, true, false, false, false, false] rfl rfl (any_of HT_.out (by kernel_rfl)) (fun _ _ _ h => h) (Or.inl ⟨by rfl, ?_⟩) ?_ ?_
          rotate_left
          · intro w'
            go_simp
            with_reducible rfl
          rotate_left
          · simp only [Act.put, List.setIfInBounds_toArray, List.set_cons_zero, List.set_cons_succ, i64_w, i32_w]
            rfl
          refine take_ (i := 3) (N := some 10) (v := ?_) (a' := ?_) #[true, true, true, true, true, true, true, false, false, false, false] rfl rfl (take_ofW HT_.out HW_.out (by kernel_rfl)) (fun _ _ _ h => h) (Or.inl ⟨by rfl, ?_⟩) hHeld ?_ ?_
          rotate_left
          · rintro w' ⟨s0, s1, s2, s3, s4, s5⟩
            go_simp
            with_reducible rfl
          rotate_left
          · simp only [Act.put, List.setIfInBounds_toArray, List.set_cons_zero, List.set_cons_succ, i64_w, i32_w]
            rfl
          refine take_ (i := 7) (N := some 14) (v := ?_) (a' := ?_) #[true, true, true, true, true, true, true, true, false, false, false] rfl rfl (take_ofW HT_.out HW_.out (by kernel_rfl)) (fun _ _ _ h => h) (Or.inl ⟨by rfl, ?_⟩) hHeld ?_ ?_
          rotate_left
          · rintro w' ⟨s0, s1, s2, s3, s4, s5⟩
            go_simp
            with_reducible rfl
          rotate_left
          · simp only [Act.put, List.setIfInBounds_toArray, List.set_cons_zero, List.set_cons_succ, i64_w, i32_w]
            rfl
          refine one_ (i := 8) (N := some 15) #[true, true, true, true, true, true, true, true, true, false, false] rfl rfl (one_of HT_.out (by kernel_rfl)) (by decide) (fun K hK => ?_)
          refine goes_ Try.func70 (by kernel_rfl) rfl #[.agg #[.int .i64 ((rd_T68 l0 a1).f0), .int .i64 ((rd_T68 l0 a1).f1), .int .i64 ((rd_T68 l0 a1).f2)], .agg #[.int .i64 ((rd_T68 l0 a2).f0), .int .i64 ((rd_T68 l0 a2).f1), .int .i64 ((rd_T68 l0 a2).f2)]] (by rfl) rfl rfl (by (try simp only [List.map_toArray, List.map_cons, List.map_nil]); first | done | rfl | (simp only [List.length_drop, List.length_take]; rfl)) ?_
          with_reducible refine (frac_Cmp.calls ((rd_T68 l0 a1).f0) ((rd_T68 l0 a1).f1) ((rd_T68 l0 a1).f2) ((rd_T68 l0 a2).f0) ((rd_T68 l0 a2).f1) ((rd_T68 l0 a2).f2) t115 _ A8.out).mono ?_
          rintro e w10 ⟨rfl, hb⟩
          refine ⟨_, rfl, ?_⟩
          have n0_ := Aside0.mk (below_step (by repeat (first | (with_reducible first | exact HB.out | apply below_alloc | apply pw_below_drewN | apply below_drew1) | exact HB.out)) hb)
          clear HB
          have HB := n0_
          clear n0_
          (try clear hb)
          (try clear hb2)
          (try clear hk)
          (try clear hi)
          refine hK.out _ _ ⟨((HB.out.cell (World.block_lt_of_cell? w _ hw113_0)).trans hw113_0), ((HB.out.cell (World.block_lt_of_cell? w _ hw113_1)).trans hw113_1), ((HB.out.cell (World.block_lt_of_cell? w _ hw113_2)).trans hw113_2), ((HB.out.cell (World.block_lt_of_cell? w _ hw114_0)).trans hw114_0), ((HB.out.cell (World.block_lt_of_cell? w _ hw114_1)).trans hw114_1), ((HB.out.cell (World.block_lt_of_cell? w _ hw114_2)).trans hw114_2)⟩ (fun hHeld => ?_)
          clear hK K
          refine norm_ (a' := ?_) ?_ ?_
          rotate_left
          · show Act.put _ (some 15) _ = _
            simp only [Act.put, List.setIfInBounds_toArray, List.set_cons_zero, List.set_cons_succ, i64_w, i32_w]
            rfl
          refine pure_ (i := 9) (N := some 16) (v := ?_) (a' := ?_) #[true, true, true, true, true, true, true, true, true, true, false] rfl rfl (any_of HT_.out (by kernel_rfl)) (fun _ _ _ h => h) (Or.inl ⟨by rfl, ?_⟩) ?_ ?_
          rotate_left
          · intro w'
            go_simp
            with_reducible rfl
          rotate_left
          · simp only [Act.put, List.setIfInBounds_toArray, List.set_cons_zero, List.set_cons_succ, i64_w, i32_w]
            rfl
          refine pure_ (i := 10) (N := some 6) (v := ?_) (a' := ?_) #[true, true, true, true, true, true, true, true, true, true, true] rfl rfl (any_of HT_.out (by kernel_rfl)) (fun _ _ _ h => h) (Or.inl ⟨by rfl, ?_⟩) ?_ ?_
          rotate_left
          · intro w'
            go_simp
            with_reducible rfl
          rotate_left
          · simp only [Act.put, List.setIfInBounds_toArray, List.set_cons_zero, List.set_cons_succ, i64_w, i32_w]
            rfl
          refine done_ (done_of HT_.out (by kernel_rfl)) ?_
          try go_wp2
          go_ret
          exact ⟨by first | rfl | (simp [errW_none, errW_some] <;> rfl) | (simp [*, errW_none, errW_some] <;> rfl), by repeat (first | (with_reducible first | exact HB.out | apply below_alloc | apply pw_below_drewN | apply below_drew1) | exact HB.out)⟩
        · rw [if_neg c7] at H
          exact absurd H (by simp)
      · rw [if_neg c6] at H
        exact absurd H (by simp)
    · rw [if_neg c5] at H
      exact absurd H (by simp)
  · rw [if_neg c4] at H
    exact absurd H (by simp)

/-! ### spread_keys_Swap: function 69 -/
def spread_keys_Swap.f (l0 : List (S68)) (a1 : Int) (a2 : Int) : Option ((List (S68))) := if 0 ≤ a2 then (if a2 < (l0.length : Int) then (if 0 ≤ a1 then (if a1 < (l0.length : Int) then (some ((l0.set (a1 : Int).toNat (⟨(rd_T68 l0 a2).f0, (rd_T68 l0 a2).f1, (rd_T68 l0 a2).f2⟩ : S68)).set (a2 : Int).toNat (⟨(rd_T68 l0 a1).f0, (rd_T68 l0 a1).f1, (rd_T68 l0 a1).f2⟩ : S68))) else (none)) else (none)) else (none)) else (none)
def spread_keys_Swap.T0 : Bool × List (List Nat × List Nat) := (true, [([], []), ([], []), ([], []), ([], []), ([], []), ([], []), ([4, 5], [4, 5]), ([6], [6]), ([], []), ([], []), ([8, 9], [8, 9]), ([10], [10]), ([0, 1, 0, 1, 4, 5, 6, 7, 11], [0, 1]), ([12, 7, 0, 1, 4, 5, 6, 7, 11], [7, 12]), ([2, 3, 0, 1, 2, 3, 4, 5, 6, 7, 8, 9, 10, 11, 12, 13], [2, 3]), ([14, 11, 13, 0, 1, 2, 3, 4, 5, 6, 7, 8, 9, 10, 11, 12, 13], [11, 14])])
def spread_keys_Swap.B0 : List Nat := [0, 0, 0, 0, 0, 0, 48, 112, 0, 0, 768, 1792, 4083, 8179, 16383, 32767]
theorem spread_keys_Swap.tab0 : rtab .any (opsOf Try.f69 0) = spread_keys_Swap.T0 := by kernel_rfl
theorem spread_keys_Swap.bits0 : waitsOk spread_keys_Swap.T0.2 spread_keys_Swap.B0 = true := by kernel_rfl
set_option maxHeartbeats 8000000 in
set_option maxRecDepth 100000 in
theorem spread_keys_Swap.calls (P0_ : Nat → Prop) (u9000_ : Value) (l0 : List (S68)) (a1 : Int) (a2 : Int) (r : List (S68)) (w0 w : World) (hB : Below w0.heap.size w0 w) (ho0 : Kd.R k68 68 w w0.heap.size P0_ u9000_ l0) (h : spread_keys_Swap.f l0 a1 a2 = some r) :
    Calls Try.prog 69 #[u9000_, .int .i64 a1, .int .i64 a2] w fun e w' => e = .returned (.tuple #[]) ∧ Kd.R k68 68 w' w0.heap.size (fun k_ => (P0_ k_ ∨ w.heap.size ≤ k_)) u9000_ r ∧ Below w0.heap.size w0 w' ∧ Kept w w' (fun k_ => P0_ k_) := by
  have hu68 := Try.underlying68
  have HO0 := Aside0.mk (show Kd.R k68 68 w w0.heap.size (fun k_ => (P0_ k_ ∨ w.heap.size ≤ k_)) u9000_ l0 from Kd.R_mono ho0 (fun k_ hk => (.inl hk)))
  have HK := Aside0.mk (Kept.refl w (fun k_ => P0_ k_))
  have HW0 := Aside0.mk hB.size
  have HB := Aside0.mk hB
  clear hB
  have H : (if 0 ≤ a2 then (if a2 < (l0.length : Int) then (if 0 ≤ a1 then (if a1 < (l0.length : Int) then (some ((l0.set (a1 : Int).toNat (⟨(rd_T68 l0 a2).f0, (rd_T68 l0 a2).f1, (rd_T68 l0 a2).f2⟩ : S68)).set (a2 : Int).toNat (⟨(rd_T68 l0 a1).f0, (rd_T68 l0 a1).f1, (rd_T68 l0 a1).f2⟩ : S68))) else (none)) else (none)) else (none)) else (none)) = some r := h
  clear h
  by_cases c4 : 0 ≤ a2
  · rw [if_pos c4] at H
    have c4b0 : decide (0 ≤ a2) = true := decide_eq_true c4
    clear c4
    by_cases c5 : a2 < (l0.length : Int)
    · rw [if_pos c5] at H
      have c5b0 : decide (a2 < (l0.length : Int)) = true := decide_eq_true c5
      clear c5
      by_cases c6 : 0 ≤ a1
      · rw [if_pos c6] at H
        have c6b0 : decide (0 ≤ a1) = true := decide_eq_true c6
        clear c6
        by_cases c7 : a1 < (l0.length : Int)
        · rw [if_pos c7] at H
          have c7b0 : decide (a1 < (l0.length : Int)) = true := decide_eq_true c7
          clear c7
          obtain ⟨y118, hy118⟩ : ∃ y_ : List (S68), y_ = (l0.set (a1 : Int).toNat (⟨(rd_T68 l0 a2).f0, (rd_T68 l0 a2).f1, (rd_T68 l0 a2).f2⟩ : S68)) := ⟨_, rfl⟩
          replace H : (some (y118.set (a2 : Int).toNat (⟨(rd_T68 l0 a1).f0, (rd_T68 l0 a1).f1, (rd_T68 l0 a1).f2⟩ : S68))) = some r := by first | (rw [hy118]; with_reducible exact H) | (have H2_ := (Option.bind_some _ _).symm.trans H; rw [hy118]; with_reducible exact H2_) | (have H2_ := (Option.bind_some _ _).symm.trans H; with_reducible exact H2_) | with_reducible exact H | (rw [hy118]; exact H) | exact H
          have Ny118 := Aside0.mk hy118
          clear hy118
          obtain ⟨y119, hy119⟩ : ∃ y_ : List (S68), y_ = (y118.set (a2 : Int).toNat (⟨(rd_T68 l0 a1).f0, (rd_T68 l0 a1).f1, (rd_T68 l0 a1).f2⟩ : S68)) := ⟨_, rfl⟩
          replace H : (some y119) = some r := by first | (rw [hy119]; with_reducible exact H) | (have H2_ := (Option.bind_some _ _).symm.trans H; rw [hy119]; with_reducible exact H2_) | (have H2_ := (Option.bind_some _ _).symm.trans H; with_reducible exact H2_) | with_reducible exact H | (rw [hy119]; exact H) | exact H
          have Ny119 := Aside0.mk hy119
          clear hy119
          obtain rfl := Option.some.inj H
          go_enter Try.func69, Try.ntmps69
          try go_wp2
          have n0_ := Aside0.mk (Kd.R_drew HO0.out)
          have n1_ := Aside0.mk (Kept.drew HK.out)
          have n2_ := Aside0.mk (below_drew1 HB.out)
          clear HO0
          clear HK
          clear HB
          have HO0 := n0_
          have HK := n1_
          have HB := n2_
          clear n0_ n1_ n2_
          obtain ⟨Ao11, co11, eo11⟩ := Kd.R_slice HO0.out
          (first | subst eo11 | (injection eo11 with f1_ f2_ f3_; have f4_ := f1_.symm; have f5_ := f3_.symm; clear f1_ f2_ f3_; subst f4_; subst f5_))
          have p116 : 0 ≤ (a2 : Int) := of_decide_eq_true (by first | (with_reducible assumption) | assumption)
          have q116 : a2 < (l0.length : Int) := of_decide_eq_true (by first | (with_reducible assumption) | assumption)
          obtain ⟨ad116, e116, hx116_0, hx116_1, hx116_2⟩ := at_T68 (Kd.R_reads' HO0.out).2.2 a2 p116 q116
          cases e116
          replace p116 := eq_true p116
          replace q116 := eq_true q116
          have p117 : 0 ≤ (a1 : Int) := of_decide_eq_true (by first | (with_reducible assumption) | assumption)
          have q117 : a1 < (l0.length : Int) := of_decide_eq_true (by first | (with_reducible assumption) | assumption)
          obtain ⟨ad117, e117, hx117_0, hx117_1, hx117_2⟩ := at_T68 (Kd.R_reads' HO0.out).2.2 a1 p117 q117
          obtain rfl : ad116 = ad117 := (by injection e117)
          replace p117 := eq_true p117
          replace q117 := eq_true q117
          have p8 : 0 ≤ (a1 : Int) := of_decide_eq_true (by first | (with_reducible assumption) | assumption)
          have q8 : (a1 : Int) < ((l0.length : Int) : Int) := of_decide_eq_true (by first | (with_reducible assumption) | assumption)
          obtain ⟨go8, co8, eo8, gb8, gl8, cl8, HG8⟩ := Kd.R_form HO0.out (by omega)
          (first | cases eo8 | (injection eo8 with ea_ en_ ec_; (first | subst ea_ | (injection ea_ with ea_; subst ea_)); subst ec_; clear en_))
          have GB8 := Aside0.mk gb8
          have GG8 := Aside0.mk HG8
          clear gb8 gl8 HG8
          have HMgo8 := Aside0.mk (show (P0_ go8 ∨ w.heap.size ≤ go8) from (HO0.out.1 _ rfl))
          (first | simp only [add_plain] at hx116_0 | skip)
          (first | simp only [add_plain] at hx116_1 | skip)
          (first | simp only [add_plain] at hx116_2 | skip)
          (first | simp only [add_plain] at hx117_0 | skip)
          (first | simp only [add_plain] at hx117_1 | skip)
          (first | simp only [add_plain] at hx117_2 | skip)
          obtain ⟨ce8, hcl8, hM8, hcc8, hfr8⟩ := Kd.R_elem HO0.out z68 (a1 : Int) p8 q8
          obtain rfl := k68_openM hM8
          have hx8_0 : World.cell? _ ⟨go8, (a1 : Int).toNat * 3, none⟩ = some (.int .i64 ((rd_T68 l0 a1).f0)) := hcc8 0 _ rfl
          have hx8_1 : World.cell? _ ⟨go8, (a1 : Int).toNat * 3 + 1, none⟩ = some (.int .i64 ((rd_T68 l0 a1).f1)) := hcc8 1 _ rfl
          have hx8_2 : World.cell? _ ⟨go8, (a1 : Int).toNat * 3 + 2, none⟩ = some (.int .i64 ((rd_T68 l0 a1).f2)) := hcc8 2 _ rfl
          have hf8_0 : World.frozen? _ ⟨go8, (a1 : Int).toNat * 3, none⟩ = false := hfr8 0
          have hf8_1 : World.frozen? _ ⟨go8, (a1 : Int).toNat * 3 + 1, none⟩ = false := hfr8 1
          have hf8_2 : World.frozen? _ ⟨go8, (a1 : Int).toNat * 3 + 2, none⟩ = false := hfr8 2
          clear hcl8 hcc8 hfr8 hM8
          replace p8 := eq_true p8
          replace q8 := eq_true q8
          obtain ⟨ce12, hcl12, hM12, hcc12, hfr12⟩ := Kd.R_elem HO0.out z68 (a1 : Int) (of_decide_eq_true (by first | (with_reducible assumption) | assumption)) (by have h_ : (a1 : Int) < ((l0.length : Int) : Int) := of_decide_eq_true (by first | (with_reducible assumption) | assumption); first | exact h_ | (have e_ := (Kd.R_reads' HO0.out).1; omega) | simpa using h_)
          obtain rfl := k68_openM hM12
          have HP12 := (Kd.R_seg HO0.out (a1 : Int) (of_decide_eq_true (by first | (with_reducible assumption) | assumption)) (by have h_ : (a1 : Int) < ((l0.length : Int) : Int) := of_decide_eq_true (by first | (with_reducible assumption) | assumption); first | exact h_ | (have e_ := (Kd.R_reads' HO0.out).1; omega) | simpa using h_) (seg := [.int .i64 ((rd_T68 l0 a2).f0), .int .i64 ((rd_T68 l0 a2).f1), .int .i64 ((rd_T68 l0 a2).f2)]) (j := 0) hcl12 hcc12 (show 3 ≤ 3 from by decide) (x' := (⟨(rd_T68 l0 a2).f0, (rd_T68 l0 a2).f1, (rd_T68 l0 a2).f2⟩ : S68)) (k68_mkM _ _ _ (⟨(rd_T68 l0 a2).f0, (rd_T68 l0 a2).f1, (rd_T68 l0 a2).f2⟩ : S68) ) (fun _ hk => hk)).1
          rw [← Ny118.out] at HP12
          have HQ12 := Aside0.mk HP12
          clear hcl12 hcc12 hfr12 hM12 HP12
          have p9 : 0 ≤ (a2 : Int) := of_decide_eq_true (by first | (with_reducible assumption) | assumption)
          have q9 : (a2 : Int) < ((l0.length : Int) : Int) := of_decide_eq_true (by first | (with_reducible assumption) | assumption)
          obtain ⟨ce9, hcl9, hM9, hcc9, hfr9⟩ := Kd.R_elem HQ12.out z68 (a2 : Int) p9 q9
          obtain rfl := k68_openM hM9
          have hx9_0 : World.cell? _ ⟨go8, (a2 : Int).toNat * 3, none⟩ = some (.int .i64 ((rd_T68 y118 a2).f0)) := hcc9 0 _ rfl
          have hx9_1 : World.cell? _ ⟨go8, (a2 : Int).toNat * 3 + 1, none⟩ = some (.int .i64 ((rd_T68 y118 a2).f1)) := hcc9 1 _ rfl
          have hx9_2 : World.cell? _ ⟨go8, (a2 : Int).toNat * 3 + 2, none⟩ = some (.int .i64 ((rd_T68 y118 a2).f2)) := hcc9 2 _ rfl
          have hf9_0 : World.frozen? _ ⟨go8, (a2 : Int).toNat * 3, none⟩ = false := hfr9 0
          have hf9_1 : World.frozen? _ ⟨go8, (a2 : Int).toNat * 3 + 1, none⟩ = false := hfr9 1
          have hf9_2 : World.frozen? _ ⟨go8, (a2 : Int).toNat * 3 + 2, none⟩ = false := hfr9 2
          clear hcl9 hcc9 hfr9 hM9
          replace p9 := eq_true p9
          replace q9 := eq_true q9
          obtain ⟨ce13, hcl13, hM13, hcc13, hfr13⟩ := Kd.R_elem HQ12.out z68 (a2 : Int) (of_decide_eq_true (by first | (with_reducible assumption) | assumption)) (by have h_ : (a2 : Int) < ((l0.length : Int) : Int) := of_decide_eq_true (by first | (with_reducible assumption) | assumption); first | exact h_ | (have e_ := (Kd.R_reads' HO0.out).1; omega) | simpa using h_)
          obtain rfl := k68_openM hM13
          have HP13 := (Kd.R_seg HQ12.out (a2 : Int) (of_decide_eq_true (by first | (with_reducible assumption) | assumption)) (by have h_ : (a2 : Int) < ((l0.length : Int) : Int) := of_decide_eq_true (by first | (with_reducible assumption) | assumption); first | exact h_ | (have e_ := (Kd.R_reads' HO0.out).1; omega) | simpa using h_) (seg := [.int .i64 ((rd_T68 l0 a1).f0), .int .i64 ((rd_T68 l0 a1).f1), .int .i64 ((rd_T68 l0 a1).f2)]) (j := 0) hcl13 hcc13 (show 3 ≤ 3 from by decide) (x' := (⟨(rd_T68 l0 a1).f0, (rd_T68 l0 a1).f1, (rd_T68 l0 a1).f2⟩ : S68)) (k68_mkM _ _ _ (⟨(rd_T68 l0 a1).f0, (rd_T68 l0 a1).f1, (rd_T68 l0 a1).f2⟩ : S68) ) (fun _ hk => hk)).1
          rw [← Ny119.out] at HP13
          have HQ13 := Aside0.mk HP13
          clear hcl13 hcc13 hfr13 hM13 HP13
          refine start_ (n := 16) (S := fun w' => w'.cell? ⟨go8, ((a2).toNat * 3), none⟩ = some (.int .i64 ((rd_T68 l0 a2).f0)) ∧ w'.cell? ⟨go8, ((a2).toNat * 3) + 1, none⟩ = some (.int .i64 ((rd_T68 l0 a2).f1)) ∧ w'.cell? ⟨go8, ((a2).toNat * 3) + 2, none⟩ = some (.int .i64 ((rd_T68 l0 a2).f2)) ∧ w'.cell? ⟨go8, ((a1).toNat * 3), none⟩ = some (.int .i64 ((rd_T68 l0 a1).f0)) ∧ w'.cell? ⟨go8, ((a1).toNat * 3) + 1, none⟩ = some (.int .i64 ((rd_T68 l0 a1).f1)) ∧ w'.cell? ⟨go8, ((a1).toNat * 3) + 2, none⟩ = some (.int .i64 ((rd_T68 l0 a1).f2))) (ds := [13, 15]) #[false, false, false, false, false, false, false, false, false, false, false, false, false, false, false, false] (by kernel_rfl) rfl rfl ⟨hx116_0, hx116_1, hx116_2, hx117_0, hx117_1, hx117_2⟩ (fun hHeld => ?_); refine with_tabW spread_keys_Swap.tab0 spread_keys_Swap.bits0 (fun HT_ HW_ => ?_)
          generalize w.drew = w10 at HO0 HK HB GG8 HQ12 HQ13 hf8_0 hf8_1 hf8_2 hf9_0 hf9_1 hf9_2 hx116_0 hx116_1 hx116_2 hx117_0 hx117_1 hx117_2 hx8_0 hx8_1 hx8_2 hx9_0 hx9_1 hx9_2 hHeld ⊢
          obtain ⟨cm_, _, _, _, hm_⟩ := Kd.R_elem HO0.out z68 (a2 : Int) (of_eq_true p9) (of_eq_true q9)
          have hz_0 : World.frozen? _ ⟨go8, (a2).toNat * 3, none⟩ = false := hm_ 0
          have hz_1 : World.frozen? _ ⟨go8, (a2).toNat * 3 + 1, none⟩ = false := hm_ 1
          have hz_2 : World.frozen? _ ⟨go8, (a2).toNat * 3 + 2, none⟩ = false := hm_ 2
          clear hm_
          obtain ⟨um_0_0, em_0_0⟩ := cell?_setCell_some (p := ⟨go8, (a1).toNat * 3, none⟩) (x := .int .i64 ((rd_T68 l0 a2).f0)) hx116_0
          obtain ⟨um_0_1, em_0_1⟩ := cell?_setCell_some (p := ⟨go8, (a1).toNat * 3 + 1, none⟩) (x := .int .i64 ((rd_T68 l0 a2).f1)) em_0_0
          obtain ⟨um_0_2, em_0_2⟩ := cell?_setCell_some (p := ⟨go8, (a1).toNat * 3 + 2, none⟩) (x := .int .i64 ((rd_T68 l0 a2).f2)) em_0_1
          obtain ⟨um_1_0, em_1_0⟩ := cell?_setCell_some (p := ⟨go8, (a1).toNat * 3, none⟩) (x := .int .i64 ((rd_T68 l0 a2).f0)) hx116_1
          obtain ⟨um_1_1, em_1_1⟩ := cell?_setCell_some (p := ⟨go8, (a1).toNat * 3 + 1, none⟩) (x := .int .i64 ((rd_T68 l0 a2).f1)) em_1_0
          obtain ⟨um_1_2, em_1_2⟩ := cell?_setCell_some (p := ⟨go8, (a1).toNat * 3 + 2, none⟩) (x := .int .i64 ((rd_T68 l0 a2).f2)) em_1_1
          obtain ⟨um_2_0, em_2_0⟩ := cell?_setCell_some (p := ⟨go8, (a1).toNat * 3, none⟩) (x := .int .i64 ((rd_T68 l0 a2).f0)) hx116_2
          obtain ⟨um_2_1, em_2_1⟩ := cell?_setCell_some (p := ⟨go8, (a1).toNat * 3 + 1, none⟩) (x := .int .i64 ((rd_T68 l0 a2).f1)) em_2_0
          obtain ⟨um_2_2, em_2_2⟩ := cell?_setCell_some (p := ⟨go8, (a1).toNat * 3 + 2, none⟩) (x := .int .i64 ((rd_T68 l0 a2).f2)) em_2_1
          refine pure_ (i := 0) (N := some 6) (v := ?_) (a' := ?_) #[true, false, false, false, false, false, false, false, false, false, false, false, false, false, false, false] rfl rfl (any_of HT_.out (by kernel_rfl)) (fun _ _ _ h => h) (Or.inl ⟨by rfl, ?_⟩) ?_ ?_
          rotate_left
          · intro w'
            go_simp
            with_reducible rfl
          rotate_left
          · simp only [Act.put, List.setIfInBounds_toArray, List.set_cons_zero, List.set_cons_succ, i64_w, i32_w]
            rfl
          refine pure_ (i := 1) (N := some 7) (v := ?_) (a' := ?_) #[true, true, false, false, false, false, false, false, false, false, false, false, false, false, false, false] rfl rfl (any_of HT_.out (by kernel_rfl)) (fun _ _ _ h => h) (Or.inl ⟨by rfl, ?_⟩) ?_ ?_
          rotate_left
          · intro w'
            go_simp
            with_reducible rfl
          rotate_left
          · simp only [Act.put, List.setIfInBounds_toArray, List.set_cons_zero, List.set_cons_succ, i64_w, i32_w]
            rfl
          refine pure_ (i := 2) (N := some 8) (v := ?_) (a' := ?_) #[true, true, true, false, false, false, false, false, false, false, false, false, false, false, false, false] rfl rfl (any_of HT_.out (by kernel_rfl)) (fun _ _ _ h => h) (Or.inl ⟨by rfl, ?_⟩) ?_ ?_
          rotate_left
          · intro w'
            go_simp
            with_reducible rfl
          rotate_left
          · simp only [Act.put, List.setIfInBounds_toArray, List.set_cons_zero, List.set_cons_succ, i64_w, i32_w]
            rfl
          refine pure_ (i := 3) (N := some 9) (v := ?_) (a' := ?_) #[true, true, true, true, false, false, false, false, false, false, false, false, false, false, false, false] rfl rfl (any_of HT_.out (by kernel_rfl)) (fun _ _ _ h => h) (Or.inl ⟨by rfl, ?_⟩) ?_ ?_
          rotate_left
          · intro w'
            go_simp
            with_reducible rfl
          rotate_left
          · simp only [Act.put, List.setIfInBounds_toArray, List.set_cons_zero, List.set_cons_succ, i64_w, i32_w]
            rfl
          refine pure_ (i := 4) (N := some 10) (v := ?_) (a' := ?_) #[true, true, true, true, true, false, false, false, false, false, false, false, false, false, false, false] rfl rfl (any_of HT_.out (by kernel_rfl)) (fun _ _ _ h => h) (Or.inl ⟨by rfl, ?_⟩) ?_ ?_
          rotate_left
          · intro w'
            go_simp
            with_reducible rfl
          rotate_left
          · simp only [Act.put, List.setIfInBounds_toArray, List.set_cons_zero, List.set_cons_succ, i64_w, i32_w]
            rfl
          refine pure_ (i := 5) (N := some 11) (v := ?_) (a' := ?_) #[true, true, true, true, true, true, false, false, false, false, false, false, false, false, false, false] rfl rfl (any_of HT_.out (by kernel_rfl)) (fun _ _ _ h => h) (Or.inl ⟨by rfl, ?_⟩) ?_ ?_
          rotate_left
          · intro w'
            go_simp
            with_reducible rfl
          rotate_left
          · simp only [Act.put, List.setIfInBounds_toArray, List.set_cons_zero, List.set_cons_succ, i64_w, i32_w]
            rfl
          refine pure_ (i := 6) (N := some 12) (v := ?_) (a' := ?_) #[true, true, true, true, true, true, true, false, false, false, false, false, false, false, false, false] rfl rfl (any_of HT_.out (by kernel_rfl)) (fun _ _ _ h => h) (Or.inl ⟨by rfl, ?_⟩) ?_ ?_
          rotate_left
          · intro w'
            go_simp
            with_reducible rfl
          rotate_left
          · simp only [Act.put, List.setIfInBounds_toArray, List.set_cons_zero, List.set_cons_succ, i64_w, i32_w]
            rfl
          refine pure_ (i := 8) (N := some 14) (v := ?_) (a' := ?_) #[true, true, true, true, true, true, true, false, true, false, false, false, false, false, false, false] rfl rfl (any_of HT_.out (by kernel_rfl)) (fun _ _ _ h => h) (Or.inl ⟨by rfl, ?_⟩) ?_ ?_
          rotate_left
          · intro w'
            go_simp
            with_reducible rfl
          rotate_left
          · simp only [Act.put, List.setIfInBounds_toArray, List.set_cons_zero, List.set_cons_succ, i64_w, i32_w]
            rfl
          refine pure_ (i := 9) (N := some 15) (v := ?_) (a' := ?_) #[true, true, true, true, true, true, true, false, true, true, false, false, false, false, false, false] rfl rfl (any_of HT_.out (by kernel_rfl)) (fun _ _ _ h => h) (Or.inl ⟨by rfl, ?_⟩) ?_ ?_
          rotate_left
          · intro w'
            go_simp
            with_reducible rfl
          rotate_left
          · simp only [Act.put, List.setIfInBounds_toArray, List.set_cons_zero, List.set_cons_succ, i64_w, i32_w]
            rfl
          refine pure_ (i := 10) (N := some 16) (v := ?_) (a' := ?_) #[true, true, true, true, true, true, true, false, true, true, true, false, false, false, false, false] rfl rfl (any_of HT_.out (by kernel_rfl)) (fun _ _ _ h => h) (Or.inl ⟨by rfl, ?_⟩) ?_ ?_
          rotate_left
          · intro w'
            go_simp
            with_reducible rfl
          rotate_left
          · simp only [Act.put, List.setIfInBounds_toArray, List.set_cons_zero, List.set_cons_succ, i64_w, i32_w]
            rfl
          refine take_ (i := 7) (N := some 13) (v := ?_) (a' := ?_) #[true, true, true, true, true, true, true, true, true, true, true, false, false, false, false, false] rfl rfl (take_ofW HT_.out HW_.out (by kernel_rfl)) (fun _ _ _ h => h) (Or.inl ⟨by rfl, ?_⟩) hHeld ?_ ?_
          rotate_left
          · rintro w' ⟨s0, s1, s2, s3, s4, s5⟩
            go_simp
            with_reducible rfl
          rotate_left
          · simp only [Act.put, List.setIfInBounds_toArray, List.set_cons_zero, List.set_cons_succ, i64_w, i32_w]
            rfl
          refine take_ (i := 11) (N := some 17) (v := ?_) (a' := ?_) #[true, true, true, true, true, true, true, true, true, true, true, true, false, false, false, false] rfl rfl (take_ofW HT_.out HW_.out (by kernel_rfl)) (fun _ _ _ h => h) (Or.inl ⟨by rfl, ?_⟩) hHeld ?_ ?_
          rotate_left
          · rintro w' ⟨s0, s1, s2, s3, s4, s5⟩
            go_simp
            with_reducible rfl
          rotate_left
          · simp only [Act.put, List.setIfInBounds_toArray, List.set_cons_zero, List.set_cons_succ, i64_w, i32_w]
            rfl
          refine pure_ (i := 12) (N := some 18) (v := ?_) (a' := ?_) #[true, true, true, true, true, true, true, true, true, true, true, true, true, false, false, false] rfl rfl (any_of HT_.out (by kernel_rfl)) (fun _ _ _ h => h) (Or.inl ⟨by rfl, ?_⟩) ?_ ?_
          rotate_left
          · intro w'
            go_simp
            with_reducible rfl
          rotate_left
          · simp only [Act.put, List.setIfInBounds_toArray, List.set_cons_zero, List.set_cons_succ, i64_w, i32_w]
            rfl
          refine last_ (i := 13) (N := none) #[true, true, true, true, true, true, true, true, true, true, true, true, true, true, false, false] rfl rfl (one_of HT_.out (by kernel_rfl)) (by decide) (fun K hK => ?_)
          refine skip_ (w1 := ?_) (by rfl) rfl ?_ ?_
          rotate_left
          · go_simp
            rfl
          refine hK.out _ _ ?_
          clear hK K
          refine pure_ (i := 14) (N := some 19) (v := ?_) (a' := ?_) #[true, true, true, true, true, true, true, true, true, true, true, true, true, true, true, false] rfl rfl (any_of HT_.out (by kernel_rfl)) (fun _ _ _ h => h) (Or.inl ⟨by rfl, ?_⟩) ?_ ?_
          rotate_left
          · intro w'
            go_simp
            with_reducible rfl
          rotate_left
          · simp only [Act.put, List.setIfInBounds_toArray, List.set_cons_zero, List.set_cons_succ, i64_w, i32_w]
            rfl
          refine last_ (i := 15) (N := none) #[true, true, true, true, true, true, true, true, true, true, true, true, true, true, true, true] rfl rfl (one_of HT_.out (by kernel_rfl)) (by decide) (fun K hK => ?_)
          refine skip_ (w1 := ?_) (by rfl) rfl ?_ ?_
          rotate_left
          · go_simp
            rfl
          refine hK.out _ _ ?_
          clear hK K
          refine done_ (done_of HT_.out (by kernel_rfl)) ?_
          try go_wp2
          first | go_end0 | ((try simp only [Exit.inBlock, Exit.then]); refine bodyPost_ret (results_none rfl _ _ _) rfl ?_)
          exact ⟨by first | rfl | (simp [errW_none, errW_some] <;> rfl) | (simp [*, errW_none, errW_some] <;> rfl), by (with_reducible repeat (first | apply Kd.R_alloc | apply Kd.R_drewN | apply Kd.R_drew)); exact HQ13.out, by repeat (first | (with_reducible first | exact HB.out | apply below_alloc | apply pw_below_drewN | apply below_drew1 | refine below_set ?_ GB8.out | refine below_set ?_ GB8.out | refine below_set ?_ GB8.out | refine below_set ?_ GB8.out | refine below_set ?_ GB8.out | refine below_set ?_ GB8.out) | exact HB.out), by repeat (first | (with_reducible first | exact HK.out | apply Kept.alloc | apply Kept.drewN | apply Kept.drew | refine Kept.setCell ?_ HMgo8.out _ | refine Kept.setCell ?_ HMgo8.out _ | refine Kept.setCell ?_ HMgo8.out _ | refine Kept.setCell ?_ HMgo8.out _ | refine Kept.setCell ?_ HMgo8.out _ | refine Kept.setCell ?_ HMgo8.out _) | exact HK.out)⟩
        · rw [if_neg c7] at H
          exact absurd H (by simp)
      · rw [if_neg c6] at H
        exact absurd H (by simp)
    · rw [if_neg c5] at H
      exact absurd H (by simp)
  · rw [if_neg c4] at H
    exact absurd H (by simp)

end Go.Proofs.Ytjgmilkgklellaa.PPr
