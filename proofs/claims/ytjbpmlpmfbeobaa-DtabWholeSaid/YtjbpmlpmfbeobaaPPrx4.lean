/- The machine's side of this seat's laws: what each function computes, and that its call computes it; written by a program (pr.py over the kit's print.py). -/
import Derived.Test.YtjbpmlpmfbeobaaPPrx0
import Derived.Test.YtjbpmlpmfbeobaaPPrx3
namespace Go.Proofs.Ytjbpmlpmfbeobaa.PPr
open Go.RowKit Go.Proofs.YtjbpmlpmfbeobaaW.PrintWords Go.Proofs.YtjbpmlpmfbeobaaW.PrintLast Go.Proofs.YtjbpmlpmfbeobaaW.PrintMore
attribute [local go_sem] max2_int min2_int max_two min_two max_three min_three max_four min_four   -- for this text's walks alone
set_option linter.unusedVariables false
set_option linter.unusedSimpArgs false

/-! ### spread_keys_Less: function 65 -/
def spread_keys_Less.f (l0 : List (S59)) (a1 : Int) (a2 : Int) : Option (Bool) := if 0 ≤ a1 then (if a1 < (l0.length : Int) then (if 0 ≤ a2 then (if a2 < (l0.length : Int) then ((frac_Cmp.f ((rd_T59 l0 a1).f0) ((rd_T59 l0 a1).f1) ((rd_T59 l0 a1).f2) ((rd_T59 l0 a2).f0) ((rd_T59 l0 a2).f1) ((rd_T59 l0 a2).f2)).bind fun t115 => (some (decide (t115 < 0)))) else (none)) else (none)) else (none)) else (none)
def spread_keys_Less.T1 : Bool × List (List Nat × List Nat) := (true, [([], []), ([], []), ([0, 1], [0, 1]), ([2], [2]), ([], []), ([], []), ([4, 5], [4, 5]), ([6], [6]), ([3, 7], [3, 7]), ([8], [8]), ([9, 8, 0, 1, 2, 3, 4, 5, 6, 7, 8, 9], [9])])
def spread_keys_Less.B1 : List Nat := [0, 0, 3, 7, 0, 0, 48, 112, 255, 511, 1023]
theorem spread_keys_Less.tab1 : rtab .any (opsOf Try.f65 1) = spread_keys_Less.T1 := by kernel_rfl
theorem spread_keys_Less.bits1 : waitsOk spread_keys_Less.T1.2 spread_keys_Less.B1 = true := by kernel_rfl
set_option maxHeartbeats 8000000 in
set_option maxRecDepth 100000 in
theorem spread_keys_Less.calls (A0 : Option Addr) (c0 : Nat) (l0 : List (S59)) (a1 : Int) (a2 : Int) (r : Bool) (w : World) (hr0 : Kd.C k59 w A0 l0.length l0) (hc0 : l0.length ≤ c0) (h : spread_keys_Less.f l0 a1 a2 = some r) :
    Calls Try.prog 65 #[.slice A0 l0.length c0, .int .i64 a1, .int .i64 a2] w fun e w' => e = .returned (.bool r) ∧ Below w.heap.size w w' := by
  have hu59 := Try.underlying59
  have HR0 := Aside0.mk hr0
  have HC0 := Aside0.mk hc0
  clear hr0 hc0
  have HB := Aside0.mk (Below.refl w.heap.size w)
  have H : (if 0 ≤ a1 then (if a1 < (l0.length : Int) then (if 0 ≤ a2 then (if a2 < (l0.length : Int) then ((frac_Cmp.f ((rd_T59 l0 a1).f0) ((rd_T59 l0 a1).f1) ((rd_T59 l0 a1).f2) ((rd_T59 l0 a2).f0) ((rd_T59 l0 a2).f1) ((rd_T59 l0 a2).f2)).bind fun t115 => (some (decide (t115 < 0)))) else (none)) else (none)) else (none)) else (none)) = some r := h
  clear h
  by_cases c4 : 0 ≤ a1
  · rw [if_pos c4] at H
    have c4b0 : decide (0 ≤ a1) = true := decide_eq_true c4
    clear c4
    by_cases c5 : a1 < (l0.length : Int)
    · rw [if_pos c5] at H
      have c5b0 : decide (a1 < (l0.length : Int)) = true := decide_eq_true c5
      clear c5
      by_cases c6 : 0 ≤ a2
      · rw [if_pos c6] at H
        have c6b0 : decide (0 ≤ a2) = true := decide_eq_true c6
        clear c6
        by_cases c7 : a2 < (l0.length : Int)
        · rw [if_pos c7] at H
          have c7b0 : decide (a2 < (l0.length : Int)) = true := decide_eq_true c7
          clear c7
          replace H := Option.bind_eq_some_iff.mp H
          obtain ⟨t115, A80, H⟩ := H
          replace H : (some (decide (t115 < 0))) = some r := H
          have A8 := Aside0.mk A80
          clear A80
          obtain rfl := Option.some.inj H
          go_enter Try.func65, Try.ntmps65
          try go_wp2
          have n0_ := Aside0.mk (below_drew1 HB.out)
          clear HB
          have HB := n0_
          clear n0_
          have p113 : 0 ≤ (a1 : Int) := of_decide_eq_true (by first | (with_reducible assumption) | assumption)
          have q113 : a1 < (l0.length : Int) := of_decide_eq_true (by first | (with_reducible assumption) | assumption)
          obtain ⟨ad113, e113, hx113_0, hx113_1, hx113_2⟩ := at_T59 HR0.out a1 p113 q113
          have hw113_2 := hx113_2
          have hw113_1 := hx113_1
          have hw113_0 := hx113_0
          cases e113
          replace hx113_0 := (HB.out.cell (World.block_lt_of_cell? w _ hx113_0)).trans hx113_0
          replace hx113_1 := (HB.out.cell (World.block_lt_of_cell? w _ hx113_1)).trans hx113_1
          replace hx113_2 := (HB.out.cell (World.block_lt_of_cell? w _ hx113_2)).trans hx113_2
          replace p113 := eq_true p113
          replace q113 := eq_true q113
          have p114 : 0 ≤ (a2 : Int) := of_decide_eq_true (by first | (with_reducible assumption) | assumption)
          have q114 : a2 < (l0.length : Int) := of_decide_eq_true (by first | (with_reducible assumption) | assumption)
          obtain ⟨ad114, e114, hx114_0, hx114_1, hx114_2⟩ := at_T59 HR0.out a2 p114 q114
          have hw114_2 := hx114_2
          have hw114_1 := hx114_1
          have hw114_0 := hx114_0
          obtain rfl : ad113 = ad114 := (by injection e114)
          replace hx114_0 := (HB.out.cell (World.block_lt_of_cell? w _ hx114_0)).trans hx114_0
          replace hx114_1 := (HB.out.cell (World.block_lt_of_cell? w _ hx114_1)).trans hx114_1
          replace hx114_2 := (HB.out.cell (World.block_lt_of_cell? w _ hx114_2)).trans hx114_2
          replace p114 := eq_true p114
          replace q114 := eq_true q114
          refine start_ (n := 11) (S := fun w' => w'.cell? (ad113.add ((a1).toNat * 3)) = some (.int .i64 ((rd_T59 l0 a1).f0)) ∧ w'.cell? ⟨(ad113.add ((a1).toNat * 3)).block, (ad113.add ((a1).toNat * 3)).off + 1, none⟩ = some (.int .i64 ((rd_T59 l0 a1).f1)) ∧ w'.cell? ⟨(ad113.add ((a1).toNat * 3)).block, (ad113.add ((a1).toNat * 3)).off + 2, none⟩ = some (.int .i64 ((rd_T59 l0 a1).f2)) ∧ w'.cell? (ad113.add ((a2).toNat * 3)) = some (.int .i64 ((rd_T59 l0 a2).f0)) ∧ w'.cell? ⟨(ad113.add ((a2).toNat * 3)).block, (ad113.add ((a2).toNat * 3)).off + 1, none⟩ = some (.int .i64 ((rd_T59 l0 a2).f1)) ∧ w'.cell? ⟨(ad113.add ((a2).toNat * 3)).block, (ad113.add ((a2).toNat * 3)).off + 2, none⟩ = some (.int .i64 ((rd_T59 l0 a2).f2))) (ds := []) #[false, false, false, false, false, false, false, false, false, false, false] (by kernel_rfl) rfl rfl ⟨((HB.out.cell (World.block_lt_of_cell? w _ hw113_0)).trans hw113_0), ((HB.out.cell (World.block_lt_of_cell? w _ hw113_1)).trans hw113_1), ((HB.out.cell (World.block_lt_of_cell? w _ hw113_2)).trans hw113_2), ((HB.out.cell (World.block_lt_of_cell? w _ hw114_0)).trans hw114_0), ((HB.out.cell (World.block_lt_of_cell? w _ hw114_1)).trans hw114_1), ((HB.out.cell (World.block_lt_of_cell? w _ hw114_2)).trans hw114_2)⟩ (fun hHeld => ?_); refine with_tabW spread_keys_Less.tab1 spread_keys_Less.bits1 (fun HT_ HW_ => ?_)
          generalize w.drew = w9 at HB hx113_0 hx113_1 hx113_2 hx114_0 hx114_1 hx114_2 hHeld ⊢
          refine pure_ (i := 0) (N := some 7) (v := ?_) (a' := ?_) #[true, false, false, false, false, false, false, false, false, false, false] rfl rfl (any_of HT_.out (by kernel_rfl)) (fun _ _ _ h => h) (Or.inl ⟨by rfl, ?_⟩) ?_ ?_
          rotate_left
          · intro w'
            go_simp
            with_reducible rfl
          rotate_left
          · simp only [Act.put, List.setIfInBounds_toArray, List.set_cons_zero, List.set_cons_succ, i64_w, i32_w]
            rfl
          refine pure_ (i := 1) (N := some 8) (v := ?_) (a' := ?_) #[true, true, false, false, false, false, false, false, false, false, false] rfl rfl (any_of HT_.out (by kernel_rfl)) (fun _ _ _ h => h) (Or.inl ⟨by rfl, ?_⟩) ?_ ?_
          rotate_left
          · intro w'
            go_simp
            with_reducible rfl
          rotate_left
          · simp only [Act.put, List.setIfInBounds_toArray, List.set_cons_zero, List.set_cons_succ, i64_w, i32_w]
            rfl
          refine pure_ (i := 2) (N := some 9) (v := ?_) (a' := ?_) #[true, true, true, false, false, false, false, false, false, false, false] rfl rfl (any_of HT_.out (by kernel_rfl)) (fun _ _ _ h => h) (Or.inl ⟨by rfl, ?_⟩) ?_ ?_
          rotate_left
          · intro w'
            go_simp
            with_reducible rfl
          rotate_left
          · simp only [Act.put, List.setIfInBounds_toArray, List.set_cons_zero, List.set_cons_succ, i64_w, i32_w]
            rfl
          refine pure_ (i := 4) (N := some 11) (v := ?_) (a' := ?_) #[true, true, true, false, true, false, false, false, false, false, false] rfl rfl (any_of HT_.out (by kernel_rfl)) (fun _ _ _ h => h) (Or.inl ⟨by rfl, ?_⟩) ?_ ?_
          rotate_left
          · intro w'
            go_simp
            with_reducible rfl
          rotate_left
          · simp only [Act.put, List.setIfInBounds_toArray, List.set_cons_zero, List.set_cons_succ, i64_w, i32_w]
            rfl
          refine pure_ (i := 5) (N := some 12) (v := ?_) (a' := ?_) #[true, true, true, false, true, true, false, false, false, false, false] rfl rfl (any_of HT_.out (by kernel_rfl)) (fun _ _ _ h => h) (Or.inl ⟨by rfl, ?_⟩) ?_ ?_
          rotate_left
          · intro w'
            go_simp
            with_reducible rfl
          rotate_left
          · simp only [Act.put, List.setIfInBounds_toArray, List.set_cons_zero, List.set_cons_succ, i64_w, i32_w]
            rfl
          refine pure_ (i := 6) (N := some 13) (v := ?_) (a' := ?_) #[true, true, true, false, true, true, true, false, false, false, false] rfl rfl (any_of HT_.out (by kernel_rfl)) (fun _ _ _ h => h) (Or.inl ⟨by rfl, ?_⟩) ?_ ?_
          rotate_left
          · intro w'
            go_simp
            with_reducible rfl
          rotate_left
          · simp only [Act.put, List.setIfInBounds_toArray, List.set_cons_zero, List.set_cons_succ, i64_w, i32_w]
            rfl
          refine take_ (i := 3) (N := some 10) (v := ?_) (a' := ?_) #[true, true, true, true, true, true, true, false, false, false, false] rfl rfl (take_ofW HT_.out HW_.out (by kernel_rfl)) (fun _ _ _ h => h) (Or.inl ⟨by rfl, ?_⟩) hHeld ?_ ?_
          rotate_left
          · rintro w' ⟨s0, s1, s2, s3, s4, s5⟩
            go_simp
            with_reducible rfl
          rotate_left
          · simp only [Act.put, List.setIfInBounds_toArray, List.set_cons_zero, List.set_cons_succ, i64_w, i32_w]
            rfl
          refine take_ (i := 7) (N := some 14) (v := ?_) (a' := ?_) #[true, true, true, true, true, true, true, true, false, false, false] rfl rfl (take_ofW HT_.out HW_.out (by kernel_rfl)) (fun _ _ _ h => h) (Or.inl ⟨by rfl, ?_⟩) hHeld ?_ ?_
          rotate_left
          · rintro w' ⟨s0, s1, s2, s3, s4, s5⟩
            go_simp
            with_reducible rfl
          rotate_left
          · simp only [Act.put, List.setIfInBounds_toArray, List.set_cons_zero, List.set_cons_succ, i64_w, i32_w]
            rfl
          refine one_ (i := 8) (N := some 15) #[true, true, true, true, true, true, true, true, true, false, false] rfl rfl (one_of HT_.out (by kernel_rfl)) (by decide) (fun K hK => ?_)
          refine goes_ Try.func67 (by kernel_rfl) rfl #[.agg #[.int .i64 ((rd_T59 l0 a1).f0), .int .i64 ((rd_T59 l0 a1).f1), .int .i64 ((rd_T59 l0 a1).f2)], .agg #[.int .i64 ((rd_T59 l0 a2).f0), .int .i64 ((rd_T59 l0 a2).f1), .int .i64 ((rd_T59 l0 a2).f2)]] (by rfl) rfl rfl (by (try simp only [List.map_toArray, List.map_cons, List.map_nil]); first | done | rfl | (simp only [List.length_drop, List.length_take]; rfl)) ?_
          with_reducible refine (frac_Cmp.calls ((rd_T59 l0 a1).f0) ((rd_T59 l0 a1).f1) ((rd_T59 l0 a1).f2) ((rd_T59 l0 a2).f0) ((rd_T59 l0 a2).f1) ((rd_T59 l0 a2).f2) t115 _ A8.out).mono ?_
          rintro e w10 ⟨rfl, hb⟩
          refine ⟨_, rfl, ?_⟩
          have n0_ := Aside0.mk (below_step (by repeat (first | (with_reducible first | exact HB.out | apply below_alloc | apply pw_below_drewN | apply below_drew1) | exact HB.out)) hb)
          clear HB
          have HB := n0_
          clear n0_
          (try clear hb)
          (try clear hb2)
          (try clear hk)
          (try clear hi)
          refine hK.out _ _ ⟨((HB.out.cell (World.block_lt_of_cell? w _ hw113_0)).trans hw113_0), ((HB.out.cell (World.block_lt_of_cell? w _ hw113_1)).trans hw113_1), ((HB.out.cell (World.block_lt_of_cell? w _ hw113_2)).trans hw113_2), ((HB.out.cell (World.block_lt_of_cell? w _ hw114_0)).trans hw114_0), ((HB.out.cell (World.block_lt_of_cell? w _ hw114_1)).trans hw114_1), ((HB.out.cell (World.block_lt_of_cell? w _ hw114_2)).trans hw114_2)⟩ (fun hHeld => ?_)
          clear hK K
          refine norm_ (a' := ?_) ?_ ?_
          rotate_left
          · show Act.put _ (some 15) _ = _
            simp only [Act.put, List.setIfInBounds_toArray, List.set_cons_zero, List.set_cons_succ, i64_w, i32_w]
            rfl
          refine pure_ (i := 9) (N := some 16) (v := ?_) (a' := ?_) #[true, true, true, true, true, true, true, true, true, true, false] rfl rfl (any_of HT_.out (by kernel_rfl)) (fun _ _ _ h => h) (Or.inl ⟨by rfl, ?_⟩) ?_ ?_
          rotate_left
          · intro w'
            go_simp
            with_reducible rfl
          rotate_left
          · simp only [Act.put, List.setIfInBounds_toArray, List.set_cons_zero, List.set_cons_succ, i64_w, i32_w]
            rfl
          refine pure_ (i := 10) (N := some 6) (v := ?_) (a' := ?_) #[true, true, true, true, true, true, true, true, true, true, true] rfl rfl (any_of HT_.out (by kernel_rfl)) (fun _ _ _ h => h) (Or.inl ⟨by rfl, ?_⟩) ?_ ?_
          rotate_left
          · intro w'
            go_simp
            with_reducible rfl
          rotate_left
          · simp only [Act.put, List.setIfInBounds_toArray, List.set_cons_zero, List.set_cons_succ, i64_w, i32_w]
            rfl
          refine done_ (done_of HT_.out (by kernel_rfl)) ?_
          try go_wp2
          go_ret
          exact ⟨by first | rfl | (simp [errW_none, errW_some] <;> rfl) | (simp [*, errW_none, errW_some] <;> rfl), by repeat (first | (with_reducible first | exact HB.out | apply below_alloc | apply pw_below_drewN | apply below_drew1) | exact HB.out)⟩
        · rw [if_neg c7] at H
          exact absurd H (by simp)
      · rw [if_neg c6] at H
        exact absurd H (by simp)
    · rw [if_neg c5] at H
      exact absurd H (by simp)
  · rw [if_neg c4] at H
    exact absurd H (by simp)

/-! ### spread_keys_Swap: function 66 -/
def spread_keys_Swap.f (l0 : List (S59)) (a1 : Int) (a2 : Int) : Option ((List (S59))) := if 0 ≤ a2 then (if a2 < (l0.length : Int) then (if 0 ≤ a1 then (if a1 < (l0.length : Int) then (some ((l0.set (a1 : Int).toNat (⟨(rd_T59 l0 a2).f0, (rd_T59 l0 a2).f1, (rd_T59 l0 a2).f2⟩ : S59)).set (a2 : Int).toNat (⟨(rd_T59 l0 a1).f0, (rd_T59 l0 a1).f1, (rd_T59 l0 a1).f2⟩ : S59))) else (none)) else (none)) else (none)) else (none)
def spread_keys_Swap.T0 : Bool × List (List Nat × List Nat) := (true, [([], []), ([], []), ([], []), ([], []), ([], []), ([], []), ([4, 5], [4, 5]), ([6], [6]), ([], []), ([], []), ([8, 9], [8, 9]), ([10], [10]), ([0, 1, 0, 1, 4, 5, 6, 7, 11], [0, 1]), ([12, 7, 0, 1, 4, 5, 6, 7, 11], [7, 12]), ([2, 3, 0, 1, 2, 3, 4, 5, 6, 7, 8, 9, 10, 11, 12, 13], [2, 3]), ([14, 11, 13, 0, 1, 2, 3, 4, 5, 6, 7, 8, 9, 10, 11, 12, 13], [11, 14])])
def spread_keys_Swap.B0 : List Nat := [0, 0, 0, 0, 0, 0, 48, 112, 0, 0, 768, 1792, 4083, 8179, 16383, 32767]
theorem spread_keys_Swap.tab0 : rtab .any (opsOf Try.f66 0) = spread_keys_Swap.T0 := by kernel_rfl
theorem spread_keys_Swap.bits0 : waitsOk spread_keys_Swap.T0.2 spread_keys_Swap.B0 = true := by kernel_rfl
set_option maxHeartbeats 8000000 in
set_option maxRecDepth 100000 in
theorem spread_keys_Swap.calls (P0_ : Nat → Prop) (u9000_ : Value) (l0 : List (S59)) (a1 : Int) (a2 : Int) (r : List (S59)) (w0 w : World) (hB : Below w0.heap.size w0 w) (ho0 : Kd.R k59 59 w w0.heap.size P0_ u9000_ l0) (h : spread_keys_Swap.f l0 a1 a2 = some r) :
    Calls Try.prog 66 #[u9000_, .int .i64 a1, .int .i64 a2] w fun e w' => e = .returned (.tuple #[]) ∧ Kd.R k59 59 w' w0.heap.size (fun k_ => (P0_ k_ ∨ w.heap.size ≤ k_)) u9000_ r ∧ Below w0.heap.size w0 w' ∧ Kept w w' (fun k_ => P0_ k_) := by
  have hu59 := Try.underlying59
  have HO0 := Aside0.mk (show Kd.R k59 59 w w0.heap.size (fun k_ => (P0_ k_ ∨ w.heap.size ≤ k_)) u9000_ l0 from Kd.R_mono ho0 (fun k_ hk => (.inl hk)))
  have HK := Aside0.mk (Kept.refl w (fun k_ => P0_ k_))
  have HW0 := Aside0.mk hB.size
  have HB := Aside0.mk hB
  clear hB
  have H : (if 0 ≤ a2 then (if a2 < (l0.length : Int) then (if 0 ≤ a1 then (if a1 < (l0.length : Int) then (some ((l0.set (a1 : Int).toNat (⟨(rd_T59 l0 a2).f0, (rd_T59 l0 a2).f1, (rd_T59 l0 a2).f2⟩ : S59)).set (a2 : Int).toNat (⟨(rd_T59 l0 a1).f0, (rd_T59 l0 a1).f1, (rd_T59 l0 a1).f2⟩ : S59))) else (none)) else (none)) else (none)) else (none)) = some r := h
  clear h
  by_cases c4 : 0 ≤ a2
  · rw [if_pos c4] at H
    have c4b0 : decide (0 ≤ a2) = true := decide_eq_true c4
    clear c4
    by_cases c5 : a2 < (l0.length : Int)
    · rw [if_pos c5] at H
      have c5b0 : decide (a2 < (l0.length : Int)) = true := decide_eq_true c5
      clear c5
      by_cases c6 : 0 ≤ a1
      · rw [if_pos c6] at H
        have c6b0 : decide (0 ≤ a1) = true := decide_eq_true c6
        clear c6
        by_cases c7 : a1 < (l0.length : Int)
        · rw [if_pos c7] at H
          have c7b0 : decide (a1 < (l0.length : Int)) = true := decide_eq_true c7
          clear c7
          obtain ⟨y118, hy118⟩ : ∃ y_ : List (S59), y_ = (l0.set (a1 : Int).toNat (⟨(rd_T59 l0 a2).f0, (rd_T59 l0 a2).f1, (rd_T59 l0 a2).f2⟩ : S59)) := ⟨_, rfl⟩
          replace H : (some (y118.set (a2 : Int).toNat (⟨(rd_T59 l0 a1).f0, (rd_T59 l0 a1).f1, (rd_T59 l0 a1).f2⟩ : S59))) = some r := by first | (rw [hy118]; with_reducible exact H) | (have H2_ := (Option.bind_some _ _).symm.trans H; rw [hy118]; with_reducible exact H2_) | (have H2_ := (Option.bind_some _ _).symm.trans H; with_reducible exact H2_) | with_reducible exact H | (rw [hy118]; exact H) | exact H
          have Ny118 := Aside0.mk hy118
          clear hy118
          obtain ⟨y119, hy119⟩ : ∃ y_ : List (S59), y_ = (y118.set (a2 : Int).toNat (⟨(rd_T59 l0 a1).f0, (rd_T59 l0 a1).f1, (rd_T59 l0 a1).f2⟩ : S59)) := ⟨_, rfl⟩
          replace H : (some y119) = some r := by first | (rw [hy119]; with_reducible exact H) | (have H2_ := (Option.bind_some _ _).symm.trans H; rw [hy119]; with_reducible exact H2_) | (have H2_ := (Option.bind_some _ _).symm.trans H; with_reducible exact H2_) | with_reducible exact H | (rw [hy119]; exact H) | exact H
          have Ny119 := Aside0.mk hy119
          clear hy119
          obtain rfl := Option.some.inj H
          go_enter Try.func66, Try.ntmps66
          try go_wp2
          have n0_ := Aside0.mk (Kd.R_drew HO0.out)
          have n1_ := Aside0.mk (Kept.drew HK.out)
          have n2_ := Aside0.mk (below_drew1 HB.out)
          clear HO0
          clear HK
          clear HB
          have HO0 := n0_
          have HK := n1_
          have HB := n2_
          clear n0_ n1_ n2_
          obtain ⟨Ao11, co11, eo11⟩ := Kd.R_slice HO0.out
          (first | subst eo11 | (injection eo11 with f1_ f2_ f3_; have f4_ := f1_.symm; have f5_ := f3_.symm; clear f1_ f2_ f3_; subst f4_; subst f5_))
          have p116 : 0 ≤ (a2 : Int) := of_decide_eq_true (by first | (with_reducible assumption) | assumption)
          have q116 : a2 < (l0.length : Int) := of_decide_eq_true (by first | (with_reducible assumption) | assumption)
          obtain ⟨ad116, e116, hx116_0, hx116_1, hx116_2⟩ := at_T59 (Kd.R_reads' HO0.out).2.2 a2 p116 q116
          cases e116
          replace p116 := eq_true p116
          replace q116 := eq_true q116
          have p117 : 0 ≤ (a1 : Int) := of_decide_eq_true (by first | (with_reducible assumption) | assumption)
          have q117 : a1 < (l0.length : Int) := of_decide_eq_true (by first | (with_reducible assumption) | assumption)
          obtain ⟨ad117, e117, hx117_0, hx117_1, hx117_2⟩ := at_T59 (Kd.R_reads' HO0.out).2.2 a1 p117 q117
          obtain rfl : ad116 = ad117 := (by injection e117)
          replace p117 := eq_true p117
          replace q117 := eq_true q117
          have p8 : 0 ≤ (a1 : Int) := of_decide_eq_true (by first | (with_reducible assumption) | assumption)
          have q8 : (a1 : Int) < ((l0.length : Int) : Int) := of_decide_eq_true (by first | (with_reducible assumption) | assumption)
          obtain ⟨go8, co8, eo8, gb8, gl8, cl8, HG8⟩ := Kd.R_form HO0.out (by omega)
          (first | cases eo8 | (injection eo8 with ea_ en_ ec_; (first | subst ea_ | (injection ea_ with ea_; subst ea_)); subst ec_; clear en_))
          have GB8 := Aside0.mk gb8
          have GG8 := Aside0.mk HG8
          clear gb8 gl8 HG8
          have HMgo8 := Aside0.mk (show (P0_ go8 ∨ w.heap.size ≤ go8) from (HO0.out.1 _ rfl))
          (first | simp only [add_plain] at hx116_0 | skip)
          (first | simp only [add_plain] at hx116_1 | skip)
          (first | simp only [add_plain] at hx116_2 | skip)
          (first | simp only [add_plain] at hx117_0 | skip)
          (first | simp only [add_plain] at hx117_1 | skip)
          (first | simp only [add_plain] at hx117_2 | skip)
          obtain ⟨ce8, hcl8, hM8, hcc8, hfr8⟩ := Kd.R_elem HO0.out z59 (a1 : Int) p8 q8
          obtain rfl := k59_openM hM8
          have hx8_0 : World.cell? _ ⟨go8, (a1 : Int).toNat * 3, none⟩ = some (.int .i64 ((rd_T59 l0 a1).f0)) := hcc8 0 _ rfl
          have hx8_1 : World.cell? _ ⟨go8, (a1 : Int).toNat * 3 + 1, none⟩ = some (.int .i64 ((rd_T59 l0 a1).f1)) := hcc8 1 _ rfl
          have hx8_2 : World.cell? _ ⟨go8, (a1 : Int).toNat * 3 + 2, none⟩ = some (.int .i64 ((rd_T59 l0 a1).f2)) := hcc8 2 _ rfl
          have hf8_0 : World.frozen? _ ⟨go8, (a1 : Int).toNat * 3, none⟩ = false := hfr8 0
          have hf8_1 : World.frozen? _ ⟨go8, (a1 : Int).toNat * 3 + 1, none⟩ = false := hfr8 1
          have hf8_2 : World.frozen? _ ⟨go8, (a1 : Int).toNat * 3 + 2, none⟩ = false := hfr8 2
          clear hcl8 hcc8 hfr8 hM8
          replace p8 := eq_true p8
          replace q8 := eq_true q8
          obtain ⟨ce12, hcl12, hM12, hcc12, hfr12⟩ := Kd.R_elem HO0.out z59 (a1 : Int) (of_decide_eq_true (by first | (with_reducible assumption) | assumption)) (by have h_ : (a1 : Int) < ((l0.length : Int) : Int) := of_decide_eq_true (by first | (with_reducible assumption) | assumption); first | exact h_ | (have e_ := (Kd.R_reads' HO0.out).1; omega) | simpa using h_)
          obtain rfl := k59_openM hM12
          have HP12 := (Kd.R_seg HO0.out (a1 : Int) (of_decide_eq_true (by first | (with_reducible assumption) | assumption)) (by have h_ : (a1 : Int) < ((l0.length : Int) : Int) := of_decide_eq_true (by first | (with_reducible assumption) | assumption); first | exact h_ | (have e_ := (Kd.R_reads' HO0.out).1; omega) | simpa using h_) (seg := [.int .i64 ((rd_T59 l0 a2).f0), .int .i64 ((rd_T59 l0 a2).f1), .int .i64 ((rd_T59 l0 a2).f2)]) (j := 0) hcl12 hcc12 (show 3 ≤ 3 from by decide) (x' := (⟨(rd_T59 l0 a2).f0, (rd_T59 l0 a2).f1, (rd_T59 l0 a2).f2⟩ : S59)) (k59_mkM _ _ _ (⟨(rd_T59 l0 a2).f0, (rd_T59 l0 a2).f1, (rd_T59 l0 a2).f2⟩ : S59) ) (fun _ hk => hk)).1
          rw [← Ny118.out] at HP12
          have HQ12 := Aside0.mk HP12
          clear hcl12 hcc12 hfr12 hM12 HP12
          have p9 : 0 ≤ (a2 : Int) := of_decide_eq_true (by first | (with_reducible assumption) | assumption)
          have q9 : (a2 : Int) < ((l0.length : Int) : Int) := of_decide_eq_true (by first | (with_reducible assumption) | assumption)
          obtain ⟨ce9, hcl9, hM9, hcc9, hfr9⟩ := Kd.R_elem HQ12.out z59 (a2 : Int) p9 q9
          obtain rfl := k59_openM hM9
          have hx9_0 : World.cell? _ ⟨go8, (a2 : Int).toNat * 3, none⟩ = some (.int .i64 ((rd_T59 y118 a2).f0)) := hcc9 0 _ rfl
          have hx9_1 : World.cell? _ ⟨go8, (a2 : Int).toNat * 3 + 1, none⟩ = some (.int .i64 ((rd_T59 y118 a2).f1)) := hcc9 1 _ rfl
          have hx9_2 : World.cell? _ ⟨go8, (a2 : Int).toNat * 3 + 2, none⟩ = some (.int .i64 ((rd_T59 y118 a2).f2)) := hcc9 2 _ rfl
          have hf9_0 : World.frozen? _ ⟨go8, (a2 : Int).toNat * 3, none⟩ = false := hfr9 0
          have hf9_1 : World.frozen? _ ⟨go8, (a2 : Int).toNat * 3 + 1, none⟩ = false := hfr9 1
          have hf9_2 : World.frozen? _ ⟨go8, (a2 : Int).toNat * 3 + 2, none⟩ = false := hfr9 2
          clear hcl9 hcc9 hfr9 hM9
          replace p9 := eq_true p9
          replace q9 := eq_true q9
          obtain ⟨ce13, hcl13, hM13, hcc13, hfr13⟩ := Kd.R_elem HQ12.out z59 (a2 : Int) (of_decide_eq_true (by first | (with_reducible assumption) | assumption)) (by have h_ : (a2 : Int) < ((l0.length : Int) : Int) := of_decide_eq_true (by first | (with_reducible assumption) | assumption); first | exact h_ | (have e_ := (Kd.R_reads' HO0.out).1; omega) | simpa using h_)
          obtain rfl := k59_openM hM13
          have HP13 := (Kd.R_seg HQ12.out (a2 : Int) (of_decide_eq_true (by first | (with_reducible assumption) | assumption)) (by have h_ : (a2 : Int) < ((l0.length : Int) : Int) := of_decide_eq_true (by first | (with_reducible assumption) | assumption); first | exact h_ | (have e_ := (Kd.R_reads' HO0.out).1; omega) | simpa using h_) (seg := [.int .i64 ((rd_T59 l0 a1).f0), .int .i64 ((rd_T59 l0 a1).f1), .int .i64 ((rd_T59 l0 a1).f2)]) (j := 0) hcl13 hcc13 (show 3 ≤ 3 from by decide) (x' := (⟨(rd_T59 l0 a1).f0, (rd_T59 l0 a1).f1, (rd_T59 l0 a1).f2⟩ : S59)) (k59_mkM _ _ _ (⟨(rd_T59 l0 a1).f0, (rd_T59 l0 a1).f1, (rd_T59 l0 a1).f2⟩ : S59) ) (fun _ hk => hk)).1
          rw [← Ny119.out] at HP13
          have HQ13 := Aside0.mk HP13
          clear hcl13 hcc13 hfr13 hM13 HP13
          refine start_ (n := 16) (S := fun w' => w'.cell? ⟨go8, ((a2).toNat * 3), none⟩ = some (.int .i64 ((rd_T59 l0 a2).f0)) ∧ w'.cell? ⟨go8, ((a2).toNat * 3) + 1, none⟩ = some (.int .i64 ((rd_T59 l0 a2).f1)) ∧ w'.cell? ⟨go8, ((a2).toNat * 3) + 2, none⟩ = some (.int .i64 ((rd_T59 l0 a2).f2)) ∧ w'.cell? ⟨go8, ((a1).toNat * 3), none⟩ = some (.int .i64 ((rd_T59 l0 a1).f0)) ∧ w'.cell? ⟨go8, ((a1).toNat * 3) + 1, none⟩ = some (.int .i64 ((rd_T59 l0 a1).f1)) ∧ w'.cell? ⟨go8, ((a1).toNat * 3) + 2, none⟩ = some (.int .i64 ((rd_T59 l0 a1).f2))) (ds := [13, 15]) #[false, false, false, false, false, false, false, false, false, false, false, false, false, false, false, false] (by kernel_rfl) rfl rfl ⟨hx116_0, hx116_1, hx116_2, hx117_0, hx117_1, hx117_2⟩ (fun hHeld => ?_); refine with_tabW spread_keys_Swap.tab0 spread_keys_Swap.bits0 (fun HT_ HW_ => ?_)
          generalize w.drew = w10 at HO0 HK HB GG8 HQ12 HQ13 hf8_0 hf8_1 hf8_2 hf9_0 hf9_1 hf9_2 hx116_0 hx116_1 hx116_2 hx117_0 hx117_1 hx117_2 hx8_0 hx8_1 hx8_2 hx9_0 hx9_1 hx9_2 hHeld ⊢
          obtain ⟨cm_, _, _, _, hm_⟩ := Kd.R_elem HO0.out z59 (a2 : Int) (of_eq_true p9) (of_eq_true q9)
          have hz_0 : World.frozen? _ ⟨go8, (a2).toNat * 3, none⟩ = false := hm_ 0
          have hz_1 : World.frozen? _ ⟨go8, (a2).toNat * 3 + 1, none⟩ = false := hm_ 1
          have hz_2 : World.frozen? _ ⟨go8, (a2).toNat * 3 + 2, none⟩ = false := hm_ 2
          clear hm_
          obtain ⟨um_0_0, em_0_0⟩ := cell?_setCell_some (p := ⟨go8, (a1).toNat * 3, none⟩) (x := .int .i64 ((rd_T59 l0 a2).f0)) hx116_0
          obtain ⟨um_0_1, em_0_1⟩ := cell?_setCell_some (p := ⟨go8, (a1).toNat * 3 + 1, none⟩) (x := .int .i64 ((rd_T59 l0 a2).f1)) em_0_0
          obtain ⟨um_0_2, em_0_2⟩ := cell?_setCell_some (p := ⟨go8, (a1).toNat * 3 + 2, none⟩) (x := .int .i64 ((rd_T59 l0 a2).f2)) em_0_1
          obtain ⟨um_1_0, em_1_0⟩ := cell?_setCell_some (p := ⟨go8, (a1).toNat * 3, none⟩) (x := .int .i64 ((rd_T59 l0 a2).f0)) hx116_1
          obtain ⟨um_1_1, em_1_1⟩ := cell?_setCell_some (p := ⟨go8, (a1).toNat * 3 + 1, none⟩) (x := .int .i64 ((rd_T59 l0 a2).f1)) em_1_0
          obtain ⟨um_1_2, em_1_2⟩ := cell?_setCell_some (p := ⟨go8, (a1).toNat * 3 + 2, none⟩) (x := .int .i64 ((rd_T59 l0 a2).f2)) em_1_1
          obtain ⟨um_2_0, em_2_0⟩ := cell?_setCell_some (p := ⟨go8, (a1).toNat * 3, none⟩) (x := .int .i64 ((rd_T59 l0 a2).f0)) hx116_2
          obtain ⟨um_2_1, em_2_1⟩ := cell?_setCell_some (p := ⟨go8, (a1).toNat * 3 + 1, none⟩) (x := .int .i64 ((rd_T59 l0 a2).f1)) em_2_0
          obtain ⟨um_2_2, em_2_2⟩ := cell?_setCell_some (p := ⟨go8, (a1).toNat * 3 + 2, none⟩) (x := .int .i64 ((rd_T59 l0 a2).f2)) em_2_1
          refine pure_ (i := 0) (N := some 6) (v := ?_) (a' := ?_) #[true, false, false, false, false, false, false, false, false, false, false, false, false, false, false, false] rfl rfl (any_of HT_.out (by kernel_rfl)) (fun _ _ _ h => h) (Or.inl ⟨by rfl, ?_⟩) ?_ ?_
          rotate_left
          · intro w'
            go_simp
            with_reducible rfl
          rotate_left
          · simp only [Act.put, List.setIfInBounds_toArray, List.set_cons_zero, List.set_cons_succ, i64_w, i32_w]
            rfl
          refine pure_ (i := 1) (N := some 7) (v := ?_) (a' := ?_) #[true, true, false, false, false, false, false, false, false, false, false, false, false, false, false, false] rfl rfl (any_of HT_.out (by kernel_rfl)) (fun _ _ _ h => h) (Or.inl ⟨by rfl, ?_⟩) ?_ ?_
          rotate_left
          · intro w'
            go_simp
            with_reducible rfl
          rotate_left
          · simp only [Act.put, List.setIfInBounds_toArray, List.set_cons_zero, List.set_cons_succ, i64_w, i32_w]
            rfl
          refine pure_ (i := 2) (N := some 8) (v := ?_) (a' := ?_) #[true, true, true, false, false, false, false, false, false, false, false, false, false, false, false, false] rfl rfl (any_of HT_.out (by kernel_rfl)) (fun _ _ _ h => h) (Or.inl ⟨by rfl, ?_⟩) ?_ ?_
          rotate_left
          · intro w'
            go_simp
            with_reducible rfl
          rotate_left
          · simp only [Act.put, List.setIfInBounds_toArray, List.set_cons_zero, List.set_cons_succ, i64_w, i32_w]
            rfl
          refine pure_ (i := 3) (N := some 9) (v := ?_) (a' := ?_) #[true, true, true, true, false, false, false, false, false, false, false, false, false, false, false, false] rfl rfl (any_of HT_.out (by kernel_rfl)) (fun _ _ _ h => h) (Or.inl ⟨by rfl, ?_⟩) ?_ ?_
          rotate_left
          · intro w'
            go_simp
            with_reducible rfl
          rotate_left
          · simp only [Act.put, List.setIfInBounds_toArray, List.set_cons_zero, List.set_cons_succ, i64_w, i32_w]
            rfl
          refine pure_ (i := 4) (N := some 10) (v := ?_) (a' := ?_) #[true, true, true, true, true, false, false, false, false, false, false, false, false, false, false, false] rfl rfl (any_of HT_.out (by kernel_rfl)) (fun _ _ _ h => h) (Or.inl ⟨by rfl, ?_⟩) ?_ ?_
          rotate_left
          · intro w'
            go_simp
            with_reducible rfl
          rotate_left
          · simp only [Act.put, List.setIfInBounds_toArray, List.set_cons_zero, List.set_cons_succ, i64_w, i32_w]
            rfl
          refine pure_ (i := 5) (N := some 11) (v := ?_) (a' := ?_) #[true, true, true, true, true, true, false, false, false, false, false, false, false, false, false, false] rfl rfl (any_of HT_.out (by kernel_rfl)) (fun _ _ _ h => h) (Or.inl ⟨by rfl, ?_⟩) ?_ ?_
          rotate_left
          · intro w'
            go_simp
            with_reducible rfl
          rotate_left
          · simp only [Act.put, List.setIfInBounds_toArray, List.set_cons_zero, List.set_cons_succ, i64_w, i32_w]
            rfl
          refine pure_ (i := 6) (N := some 12) (v := ?_) (a' := ?_) #[true, true, true, true, true, true, true, false, false, false, false, false, false, false, false, false] rfl rfl (any_of HT_.out (by kernel_rfl)) (fun _ _ _ h => h) (Or.inl ⟨by rfl, ?_⟩) ?_ ?_
          rotate_left
          · intro w'
            go_simp
            with_reducible rfl
          rotate_left
          · simp only [Act.put, List.setIfInBounds_toArray, List.set_cons_zero, List.set_cons_succ, i64_w, i32_w]
            rfl
          refine pure_ (i := 8) (N := some 14) (v := ?_) (a' := ?_) #[true, true, true, true, true, true, true, false, true, false, false, false, false, false, false, false] rfl rfl (any_of HT_.out (by kernel_rfl)) (fun _ _ _ h => h) (Or.inl ⟨by rfl, ?_⟩) ?_ ?_
          rotate_left
          · intro w'
            go_simp
            with_reducible rfl
          rotate_left
          · simp only [Act.put, List.setIfInBounds_toArray, List.set_cons_zero, List.set_cons_succ, i64_w, i32_w]
            rfl
          refine pure_ (i := 9) (N := some 15) (v := ?_) (a' := ?_) #[true, true, true, true, true, true, true, false, true, true, false, false, false, false, false, false] rfl rfl (any_of HT_.out (by kernel_rfl)) (fun _ _ _ h => h) (Or.inl ⟨by rfl, ?_⟩) ?_ ?_
          rotate_left
          · intro w'
            go_simp
            with_reducible rfl
          rotate_left
          · simp only [Act.put, List.setIfInBounds_toArray, List.set_cons_zero, List.set_cons_succ, i64_w, i32_w]
            rfl
          refine pure_ (i := 10) (N := some 16) (v := ?_) (a' := ?_) #[true, true, true, true, true, true, true, false, true, true, true, false, false, false, false, false] rfl rfl (any_of HT_.out (by kernel_rfl)) (fun _ _ _ h => h) (Or.inl ⟨by rfl, ?_⟩) ?_ ?_
          rotate_left
          · intro w'
            go_simp
            with_reducible rfl
          rotate_left
          · simp only [Act.put, List.setIfInBounds_toArray, List.set_cons_zero, List.set_cons_succ, i64_w, i32_w]
            rfl
          refine take_ (i := 7) (N := some 13) (v := ?_) (a' := ?_) #[true, true, true, true, true, true, true, true, true, true, true, false, false, false, false, false] rfl rfl (take_ofW HT_.out HW_.out (by kernel_rfl)) (fun _ _ _ h => h) (Or.inl ⟨by rfl, ?_⟩) hHeld ?_ ?_
          rotate_left
          · rintro w' ⟨s0, s1, s2, s3, s4, s5⟩
            go_simp
            with_reducible rfl
          rotate_left
          · simp only [Act.put, List.setIfInBounds_toArray, List.set_cons_zero, List.set_cons_succ, i64_w, i32_w]
            rfl
          refine take_ (i := 11) (N := some 17) (v := ?_) (a' := ?_) #[true, true, true, true, true, true, true, true, true, true, true, true, false, false, false, false] rfl rfl (take_ofW HT_.out HW_.out (by kernel_rfl)) (fun _ _ _ h => h) (Or.inl ⟨by rfl, ?_⟩) hHeld ?_ ?_
          rotate_left
          · rintro w' ⟨s0, s1, s2, s3, s4, s5⟩
            go_simp
            with_reducible rfl
          rotate_left
          · simp only [Act.put, List.setIfInBounds_toArray, List.set_cons_zero, List.set_cons_succ, i64_w, i32_w]
            rfl
          refine pure_ (i := 12) (N := some 18) (v := ?_) (a' := ?_) #[true, true, true, true, true, true, true, true, true, true, true, true, true, false, false, false] rfl rfl (any_of HT_.out (by kernel_rfl)) (fun _ _ _ h => h) (Or.inl ⟨by rfl, ?_⟩) ?_ ?_
          rotate_left
          · intro w'
            go_simp
            with_reducible rfl
          rotate_left
          · simp only [Act.put, List.setIfInBounds_toArray, List.set_cons_zero, List.set_cons_succ, i64_w, i32_w]
            rfl
          refine last_ (i := 13) (N := none) #[true, true, true, true, true, true, true, true, true, true, true, true, true, true, false, false] rfl rfl (one_of HT_.out (by kernel_rfl)) (by decide) (fun K hK => ?_)
          refine skip_ (w1 := ?_) (by rfl) rfl ?_ ?_
          rotate_left
          · go_simp
            rfl
          refine hK.out _ _ ?_
          clear hK K
          refine pure_ (i := 14) (N := some 19) (v := ?_) (a' := ?_) #[true, true, true, true, true, true, true, true, true, true, true, true, true, true, true, false] rfl rfl (any_of HT_.out (by kernel_rfl)) (fun _ _ _ h => h) (Or.inl ⟨by rfl, ?_⟩) ?_ ?_
          rotate_left
          · intro w'
            go_simp
            with_reducible rfl
          rotate_left
          · simp only [Act.put, List.setIfInBounds_toArray, List.set_cons_zero, List.set_cons_succ, i64_w, i32_w]
            rfl
          refine last_ (i := 15) (N := none) #[true, true, true, true, true, true, true, true, true, true, true, true, true, true, true, true] rfl rfl (one_of HT_.out (by kernel_rfl)) (by decide) (fun K hK => ?_)
          refine skip_ (w1 := ?_) (by rfl) rfl ?_ ?_
          rotate_left
          · go_simp
            rfl
          refine hK.out _ _ ?_
          clear hK K
          refine done_ (done_of HT_.out (by kernel_rfl)) ?_
          try go_wp2
          first | go_end0 | ((try simp only [Exit.inBlock, Exit.then]); refine bodyPost_ret (results_none rfl _ _ _) rfl ?_)
          exact ⟨by first | rfl | (simp [errW_none, errW_some] <;> rfl) | (simp [*, errW_none, errW_some] <;> rfl), by (with_reducible repeat (first | apply Kd.R_alloc | apply Kd.R_drewN | apply Kd.R_drew)); exact HQ13.out, by repeat (first | (with_reducible first | exact HB.out | apply below_alloc | apply pw_below_drewN | apply below_drew1 | refine below_set ?_ GB8.out | refine below_set ?_ GB8.out | refine below_set ?_ GB8.out | refine below_set ?_ GB8.out | refine below_set ?_ GB8.out | refine below_set ?_ GB8.out) | exact HB.out), by repeat (first | (with_reducible first | exact HK.out | apply Kept.alloc | apply Kept.drewN | apply Kept.drew | refine Kept.setCell ?_ HMgo8.out _ | refine Kept.setCell ?_ HMgo8.out _ | refine Kept.setCell ?_ HMgo8.out _ | refine Kept.setCell ?_ HMgo8.out _ | refine Kept.setCell ?_ HMgo8.out _ | refine Kept.setCell ?_ HMgo8.out _) | exact HK.out)⟩
        · rw [if_neg c7] at H
          exact absurd H (by simp)
      · rw [if_neg c6] at H
        exact absurd H (by simp)
    · rw [if_neg c5] at H
      exact absurd H (by simp)
  · rw [if_neg c4] at H
    exact absurd H (by simp)

/-! ### hist_Right: function 41 -/
def hist_Right.l0 : Nat → List Int → Int → List Int → Int → Int → Option (Bool)
  | 0, _, _, _, _, _ => none
  | k + 1, x0, x3, x6, x7, x8 => if x8 < x7 then (if 0 ≤ x8 then (if x8 < (x6.length : Int) then (if (rd x6 x8) < 0 then (some false) else (if (rd x6 x8) > (wrap64 (1073741824 - x3)) then (some false) else (hist_Right.l0 k x0 (wrap64 (x3 + (rd x6 x8))) x6 x7 (wrap64 (x8 + 1))))) else (none)) else (none)) else (some ((x0.length : Int) == 256))
def hist_Right.f (k : Nat) (l0 : List Int) : Option (Bool) := hist_Right.l0 k l0 0 l0 (l0.length : Int) 0
theorem hist_Right.mono_l : ∀ k, (∀ y0 y1 y2 y3 y4, LeO (hist_Right.l0 k y0 y1 y2 y3 y4) (hist_Right.l0 (k + 1) y0 y1 y2 y3 y4))
  | 0 => fun _ _ _ _ _ r h => by simp [hist_Right.l0] at h
  | k + 1 => by
    have ih0 := hist_Right.mono_l k
    · intro y0 y1 y2 y3 y4
      unfold hist_Right.l0
      repeat' first
      | (with_reducible exact ih0 _ _ _ _ _)
      | (with_reducible exact LeO.refl _)
      | (with_reducible exact LeO.none _)
      | (with_reducible refine LeO.ite ?_ ?_)
      | (with_reducible refine LeO.bind ?_ (fun _ => ?_))
      | exact ih0 _ _ _ _ _
      | exact LeO.none _
      | refine LeO.ite ?_ ?_
      | refine LeO.bind ?_ (fun _ => ?_)
theorem hist_Right.mono : ∀ a0 k, LeO (hist_Right.f k a0) (hist_Right.f (k + 1) a0) := by
  intro a0 k
  have ih0 := hist_Right.mono_l k
  unfold hist_Right.f
  repeat' first
      | (with_reducible exact ih0 _ _ _ _ _)
      | (with_reducible exact LeO.refl _)
      | (with_reducible exact LeO.none _)
      | (with_reducible refine LeO.ite ?_ ?_)
      | (with_reducible refine LeO.bind ?_ (fun _ => ?_))
      | exact ih0 _ _ _ _ _
      | exact LeO.none _
      | refine LeO.ite ?_ ?_
      | refine LeO.bind ?_ (fun _ => ?_)
set_option maxHeartbeats 8000000 in
set_option maxRecDepth 100000 in
theorem hist_Right.calls (k : Nat) (A0 : Option Addr) (c0 : Nat) (l0 : List Int) (r : Bool) (w : World) (hr0 : Kd.C (Kd.int .i64) w A0 l0.length l0) (hc0 : l0.length ≤ c0) (h : hist_Right.f k l0 = some r) :
    Calls Try.prog 41 #[.slice A0 l0.length c0] w fun e w' => e = .returned (.bool r) ∧ Drawn0 w w' := by
  have HR0 := Aside0.mk hr0
  have HC0 := Aside0.mk hc0
  clear hr0 hc0
  have H : (hist_Right.l0 k l0 0 l0 (l0.length : Int) 0) = some r := h
  clear h
  have H' := Aside0.mk H
  clear H
  go_enter Try.func41, Try.ntmps41
  go_wp2
  go_loopg [3, 8] k (fun kq v3 v8 w' => ∃ (x3_1 : Int) (x8_1 : Int), v3 = .int .i64 x3_1 ∧ v8 = .int .i64 x8_1 ∧ Aside0 (hist_Right.l0 kq l0 x3_1 l0 (l0.length : Int) x8_1 = some r) ∧ Aside0 (kq ≤ k) ∧ Drawn0 w w')
  case atStart => exact ⟨(0), (0), (by first | rfl | (simp; done) | (simp [*]; done)), (by first | rfl | (simp; done) | (simp [*]; done)), H', ⟨Nat.le_refl _⟩, by repeat (first | exact Drawn0.refl _ | apply Drawn0.step)⟩
  case round =>
    clear H'
    obtain ⟨x3_1, x8_1, rfl, rfl, HA, HK1, ⟨m1, rfl⟩⟩ := hrel
    cases gk with
    | zero => exact absurd HA.out (by simp [hist_Right.l0])
    | succ k1 =>
      have H := HA.out
      clear HA
      simp only [hist_Right.l0] at H
      by_cases c2 : x8_1 < (l0.length : Int)
      · rw [if_pos c2] at H
        have c2b0 : decide (x8_1 < (l0.length : Int)) = true := decide_eq_true c2
        clear c2
        by_cases c3 : 0 ≤ x8_1
        · rw [if_pos c3] at H
          have c3b0 : decide (0 ≤ x8_1) = true := decide_eq_true c3
          clear c3
          by_cases c4 : x8_1 < (l0.length : Int)
          · rw [if_pos c4] at H
            have c4b0 : decide (x8_1 < (l0.length : Int)) = true := decide_eq_true c4
            clear c4
            by_cases c5 : (rd l0 x8_1) < 0
            · rw [if_pos c5] at H
              have c5b0 : decide ((rd l0 x8_1) < 0) = true := decide_eq_true c5
              clear c5
              obtain rfl := Option.some.inj H
              have p120 : 0 ≤ (x8_1 : Int) := of_decide_eq_true (by first | (with_reducible assumption) | assumption)
              have q120 : x8_1 < (l0.length : Int) := of_decide_eq_true (by first | (with_reducible assumption) | assumption)
              obtain ⟨ad120, e120, hx120_0⟩ := Kd.at_int HR0.out x8_1 p120 q120
              cases e120
              replace p120 := eq_true p120
              replace q120 := eq_true q120
              go_wp2
              go_ret
              exact ⟨by first | rfl | (simp; done) | (simp [*]; done), by repeat (first | exact Drawn0.refl _ | apply Drawn0.step)⟩
            · rw [if_neg c5] at H
              have c5b0 : decide ((rd l0 x8_1) < 0) = false := decide_eq_false c5
              clear c5
              by_cases c6 : (rd l0 x8_1) > (wrap64 (1073741824 - x3_1))
              · rw [if_pos c6] at H
                have c6b0 : decide ((wrap64 (1073741824 - x3_1)) < (rd l0 x8_1)) = true := decide_eq_true c6
                clear c6
                obtain rfl := Option.some.inj H
                have p120 : 0 ≤ (x8_1 : Int) := of_decide_eq_true (by first | (with_reducible assumption) | assumption)
                have q120 : x8_1 < (l0.length : Int) := of_decide_eq_true (by first | (with_reducible assumption) | assumption)
                obtain ⟨ad120, e120, hx120_0⟩ := Kd.at_int HR0.out x8_1 p120 q120
                cases e120
                replace p120 := eq_true p120
                replace q120 := eq_true q120
                go_wp2
                go_ret
                exact ⟨by first | rfl | (simp; done) | (simp [*]; done), by repeat (first | exact Drawn0.refl _ | apply Drawn0.step)⟩
              · rw [if_neg c6] at H
                have c6b0 : decide ((wrap64 (1073741824 - x3_1)) < (rd l0 x8_1)) = false := decide_eq_false c6
                clear c6
                have H' := Aside0.mk H
                clear H
                have p120 : 0 ≤ (x8_1 : Int) := of_decide_eq_true (by first | (with_reducible assumption) | assumption)
                have q120 : x8_1 < (l0.length : Int) := of_decide_eq_true (by first | (with_reducible assumption) | assumption)
                obtain ⟨ad120, e120, hx120_0⟩ := Kd.at_int HR0.out x8_1 p120 q120
                cases e120
                replace p120 := eq_true p120
                replace q120 := eq_true q120
                go_wp2
                go_roundg k1
                case measure => have := HK1.out; omega
                case rel => exact ⟨(wrap64 (x3_1 + (rd l0 x8_1))), (wrap64 (x8_1 + 1)), (by first | rfl | (simp; done) | (simp [*]; done)), (by first | rfl | (simp; done) | (simp [*]; done)), H', ⟨by have := HK1.out; omega⟩, by repeat (first | exact Drawn0.refl _ | apply Drawn0.step)⟩
          · rw [if_neg c4] at H
            exact absurd H (by simp)
        · rw [if_neg c3] at H
          exact absurd H (by simp)
      · rw [if_neg c2] at H
        have c2b0 : decide (x8_1 < (l0.length : Int)) = false := decide_eq_false c2
        clear c2
        obtain rfl := Option.some.inj H
        go_wp2
        go_ret
        exact ⟨by first | rfl | (simp; done) | (simp [*]; done), by repeat (first | exact Drawn0.refl _ | apply Drawn0.step)⟩

/-! ### hist_Total: function 35 -/
def hist_Total.l0 : Nat → Int → List Int → Int → Int → Option (Int)
  | 0, _, _, _, _ => none
  | k + 1, x3, x9, x10, x11 => if x11 < x10 then (if 0 ≤ x11 then (if x11 < (x9.length : Int) then (hist_Total.l0 k (wrap64 (x3 + (rd x9 x11))) x9 x10 (wrap64 (x11 + 1))) else (none)) else (none)) else (some x3)
def hist_Total.f (k : Nat) (l0 : List Int) : Option (Int) := (hist_Right.f k l0).bind fun t121 => (if t121 = true then (hist_Total.l0 k 0 l0 (l0.length : Int) 0) else (some 0))
theorem hist_Total.mono_l : ∀ k, (∀ y0 y1 y2 y3, LeO (hist_Total.l0 k y0 y1 y2 y3) (hist_Total.l0 (k + 1) y0 y1 y2 y3))
  | 0 => fun _ _ _ _ r h => by simp [hist_Total.l0] at h
  | k + 1 => by
    have ih0 := hist_Total.mono_l k
    · intro y0 y1 y2 y3
      unfold hist_Total.l0
      repeat' first
      | (with_reducible exact ih0 _ _ _ _)
      | (with_reducible exact hist_Right.mono _ _)
      | (with_reducible exact LeO.refl _)
      | (with_reducible exact LeO.none _)
      | (with_reducible refine LeO.ite ?_ ?_)
      | (with_reducible refine LeO.bind ?_ (fun _ => ?_))
      | exact ih0 _ _ _ _
      | exact hist_Right.mono _ _
      | exact LeO.none _
      | refine LeO.ite ?_ ?_
      | refine LeO.bind ?_ (fun _ => ?_)
theorem hist_Total.mono : ∀ a0 k, LeO (hist_Total.f k a0) (hist_Total.f (k + 1) a0) := by
  intro a0 k
  have ih0 := hist_Total.mono_l k
  unfold hist_Total.f
  repeat' first
      | (with_reducible exact ih0 _ _ _ _)
      | (with_reducible exact hist_Right.mono _ _)
      | (with_reducible exact LeO.refl _)
      | (with_reducible exact LeO.none _)
      | (with_reducible refine LeO.ite ?_ ?_)
      | (with_reducible refine LeO.bind ?_ (fun _ => ?_))
      | exact ih0 _ _ _ _
      | exact hist_Right.mono _ _
      | exact LeO.none _
      | refine LeO.ite ?_ ?_
      | refine LeO.bind ?_ (fun _ => ?_)
set_option maxHeartbeats 8000000 in
set_option maxRecDepth 100000 in
theorem hist_Total.calls (k : Nat) (A0 : Option Addr) (c0 : Nat) (l0 : List Int) (r : Int) (w : World) (hr0 : Kd.C (Kd.int .i64) w A0 l0.length l0) (hc0 : l0.length ≤ c0) (h : hist_Total.f k l0 = some r) :
    Calls Try.prog 35 #[.slice A0 l0.length c0] w fun e w' => e = .returned (.int .i64 r) ∧ Drawn0 w w' := by
  have HR0 := Aside0.mk hr0
  have HC0 := Aside0.mk hc0
  clear hr0 hc0
  have H : ((hist_Right.f k l0).bind fun t121 => (if t121 = true then (hist_Total.l0 k 0 l0 (l0.length : Int) 0) else (some 0))) = some r := h
  clear h
  replace H := Option.bind_eq_some_iff.mp H
  obtain ⟨t121, A20, H⟩ := H
  replace H : (if t121 = true then (hist_Total.l0 k 0 l0 (l0.length : Int) 0) else (some 0)) = some r := H
  have A2 := Aside0.mk A20
  clear A20
  by_cases c3 : t121 = true
  · subst c3
    have H1 : (hist_Total.l0 k 0 l0 (l0.length : Int) 0) = some r := by rw [if_pos rfl] at H; exact H
    clear H
    have H := H1
    clear H1
    have H' := Aside0.mk H
    clear H
    go_enter Try.func35, Try.ntmps35
    go_wp2_with (first | ((with_reducible refine gate_callee (f := 41) rfl ?_); refine goesL_ (some 7) rfl rfl Try.func41 (by kernel_rfl) rfl #[.slice A0 l0.length c0] rfl (by (try simp only [List.map_toArray, List.map_cons, List.map_nil]); first | done | rfl | (simp only [List.length_drop, List.length_take]; rfl)) ?_; (with_reducible refine (hist_Right.calls k _ _ l0 true _ ?side1 ?side2 A2.out).mono ?_); (case side1 => repeat (first | exact HR0.out | (with_reducible refine Kd.C_alloc ?_ _) | (with_reducible refine Kd.C_drewN ?_ _) | (with_reducible refine Kd.C_drew ?_))); (case side2 => exact HC0.out); rintro e w' ⟨rfl, ⟨nd, rfl⟩⟩; refine ⟨_, rfl, ?_⟩))
    go_loopg [3, 11] k (fun kq v3 v11 w' => ∃ (x3_1 : Int) (x11_1 : Int), v3 = .int .i64 x3_1 ∧ v11 = .int .i64 x11_1 ∧ Aside0 (hist_Total.l0 kq x3_1 l0 (l0.length : Int) x11_1 = some r) ∧ Aside0 (kq ≤ k) ∧ Drawn0 w w')
    case atStart => exact ⟨(0), (0), (by first | rfl | (simp; done) | (simp [*]; done)), (by first | rfl | (simp; done) | (simp [*]; done)), H', ⟨Nat.le_refl _⟩, by repeat (first | exact Drawn0.refl _ | apply Drawn0.step)⟩
    case round =>
      clear H'
      try clear p2
      try clear c3
      obtain ⟨x3_1, x11_1, rfl, rfl, HA, HK1, ⟨m1, rfl⟩⟩ := hrel
      cases gk with
      | zero => exact absurd HA.out (by simp [hist_Total.l0])
      | succ k1 =>
        have H := HA.out
        clear HA
        simp only [hist_Total.l0] at H
        by_cases c4 : x11_1 < (l0.length : Int)
        · rw [if_pos c4] at H
          have c4b0 : decide (x11_1 < (l0.length : Int)) = true := decide_eq_true c4
          clear c4
          by_cases c5 : 0 ≤ x11_1
          · rw [if_pos c5] at H
            have c5b0 : decide (0 ≤ x11_1) = true := decide_eq_true c5
            clear c5
            by_cases c6 : x11_1 < (l0.length : Int)
            · rw [if_pos c6] at H
              have c6b0 : decide (x11_1 < (l0.length : Int)) = true := decide_eq_true c6
              clear c6
              have H' := Aside0.mk H
              clear H
              have p122 : 0 ≤ (x11_1 : Int) := of_decide_eq_true (by first | (with_reducible assumption) | assumption)
              have q122 : x11_1 < (l0.length : Int) := of_decide_eq_true (by first | (with_reducible assumption) | assumption)
              obtain ⟨ad122, e122, hx122_0⟩ := Kd.at_int HR0.out x11_1 p122 q122
              cases e122
              replace p122 := eq_true p122
              replace q122 := eq_true q122
              go_wp2
              go_roundg k1
              case measure => have := HK1.out; omega
              case rel => exact ⟨(wrap64 (x3_1 + (rd l0 x11_1))), (wrap64 (x11_1 + 1)), (by first | rfl | (simp; done) | (simp [*]; done)), (by first | rfl | (simp; done) | (simp [*]; done)), H', ⟨by have := HK1.out; omega⟩, by repeat (first | exact Drawn0.refl _ | apply Drawn0.step)⟩
            · rw [if_neg c6] at H
              exact absurd H (by simp)
          · rw [if_neg c5] at H
            exact absurd H (by simp)
        · rw [if_neg c4] at H
          have c4b0 : decide (x11_1 < (l0.length : Int)) = false := decide_eq_false c4
          clear c4
          obtain rfl := Option.some.inj H
          go_wp2
          go_ret
          exact ⟨by first | rfl | (simp; done) | (simp [*]; done), by repeat (first | exact Drawn0.refl _ | apply Drawn0.step)⟩
  · replace c3 := Bool.eq_false_iff.mpr c3
    subst c3
    have H1 : (some 0) = some r := by rw [if_neg (show ¬ (false = true) by decide)] at H; exact H
    clear H
    have H := H1
    clear H1
    obtain rfl := Option.some.inj H
    go_enter Try.func35, Try.ntmps35
    go_wp2_with (first | ((with_reducible refine gate_callee (f := 41) rfl ?_); refine goesL_ (some 7) rfl rfl Try.func41 (by kernel_rfl) rfl #[.slice A0 l0.length c0] rfl (by (try simp only [List.map_toArray, List.map_cons, List.map_nil]); first | done | rfl | (simp only [List.length_drop, List.length_take]; rfl)) ?_; (with_reducible refine (hist_Right.calls k _ _ l0 false _ ?side1 ?side2 A2.out).mono ?_); (case side1 => repeat (first | exact HR0.out | (with_reducible refine Kd.C_alloc ?_ _) | (with_reducible refine Kd.C_drewN ?_ _) | (with_reducible refine Kd.C_drew ?_))); (case side2 => exact HC0.out); rintro e w' ⟨rfl, ⟨nd, rfl⟩⟩; refine ⟨_, rfl, ?_⟩))
    go_ret
    exact ⟨by first | rfl | (simp; done) | (simp [*]; done), by repeat (first | exact Drawn0.refl _ | apply Drawn0.step)⟩

/-! ### norm_Log: function 27 -/
def norm_Log.l0 : Nat → Int → Int → Option (Int × Bool)
  | 0, _, _ => none
  | k + 1, x4, x5 => if x5 ≤ 12 then (if 0 ≤ x5 then (if x4 = (shl .i64 1 x5) then (some (x5, true)) else (norm_Log.l0 k x4 (wrap64 (x5 + 1)))) else (none)) else (some (0, false))
def norm_Log.f (k : Nat) (l0 : List Int) : Option (Int × Bool) := (hist_Total.f k l0).bind fun t123 => (norm_Log.l0 k t123 1)
theorem norm_Log.mono_l : ∀ k, (∀ y0 y1, LeO (norm_Log.l0 k y0 y1) (norm_Log.l0 (k + 1) y0 y1))
  | 0 => fun _ _ r h => by simp [norm_Log.l0] at h
  | k + 1 => by
    have ih0 := norm_Log.mono_l k
    · intro y0 y1
      unfold norm_Log.l0
      repeat' first
      | (with_reducible exact ih0 _ _)
      | (with_reducible exact hist_Total.mono _ _)
      | (with_reducible exact LeO.refl _)
      | (with_reducible exact LeO.none _)
      | (with_reducible refine LeO.ite ?_ ?_)
      | (with_reducible refine LeO.bind ?_ (fun _ => ?_))
      | exact ih0 _ _
      | exact hist_Total.mono _ _
      | exact LeO.none _
      | refine LeO.ite ?_ ?_
      | refine LeO.bind ?_ (fun _ => ?_)
theorem norm_Log.mono : ∀ a0 k, LeO (norm_Log.f k a0) (norm_Log.f (k + 1) a0) := by
  intro a0 k
  have ih0 := norm_Log.mono_l k
  unfold norm_Log.f
  repeat' first
      | (with_reducible exact ih0 _ _)
      | (with_reducible exact hist_Total.mono _ _)
      | (with_reducible exact LeO.refl _)
      | (with_reducible exact LeO.none _)
      | (with_reducible refine LeO.ite ?_ ?_)
      | (with_reducible refine LeO.bind ?_ (fun _ => ?_))
      | exact ih0 _ _
      | exact hist_Total.mono _ _
      | exact LeO.none _
      | refine LeO.ite ?_ ?_
      | refine LeO.bind ?_ (fun _ => ?_)
set_option maxHeartbeats 8000000 in
set_option maxRecDepth 100000 in
theorem norm_Log.calls (k : Nat) (A0 : Option Addr) (c0 : Nat) (l0 : List Int) (r1 : Int) (r2 : Bool) (w : World) (hr0 : Kd.C (Kd.int .i64) w A0 l0.length l0) (hc0 : l0.length ≤ c0) (h : norm_Log.f k l0 = some (r1, r2)) :
    Calls Try.prog 27 #[.slice A0 l0.length c0] w fun e w' => e = .returned (.tuple #[.int .i64 r1, .bool r2]) ∧ Drawn0 w w' := by
  have HR0 := Aside0.mk hr0
  have HC0 := Aside0.mk hc0
  clear hr0 hc0
  have H : ((hist_Total.f k l0).bind fun t123 => (norm_Log.l0 k t123 1)) = some (r1, r2) := h
  clear h
  replace H := Option.bind_eq_some_iff.mp H
  obtain ⟨t123, A20, H⟩ := H
  replace H : (norm_Log.l0 k t123 1) = some (r1, r2) := H
  have A2 := Aside0.mk A20
  clear A20
  have H' := Aside0.mk H
  clear H
  go_enter Try.func27, Try.ntmps27
  go_wp2_with (first | ((with_reducible refine gate_callee (f := 35) rfl ?_); refine goesL_ (some 7) rfl rfl Try.func35 (by kernel_rfl) rfl #[.slice A0 l0.length c0] rfl (by (try simp only [List.map_toArray, List.map_cons, List.map_nil]); first | done | rfl | (simp only [List.length_drop, List.length_take]; rfl)) ?_; (with_reducible refine (hist_Total.calls k _ _ l0 t123 _ ?side1 ?side2 A2.out).mono ?_); (case side1 => repeat (first | exact HR0.out | (with_reducible refine Kd.C_alloc ?_ _) | (with_reducible refine Kd.C_drewN ?_ _) | (with_reducible refine Kd.C_drew ?_))); (case side2 => exact HC0.out); rintro e w' ⟨rfl, ⟨nd, rfl⟩⟩; refine ⟨_, rfl, ?_⟩))
  go_loopg [5] k (fun kq v5 w' => ∃ (x5_1 : Int), v5 = .int .i64 x5_1 ∧ Aside0 (norm_Log.l0 kq t123 x5_1 = some (r1, r2)) ∧ Aside0 (kq ≤ k) ∧ Drawn0 w w')
  case atStart => exact ⟨(1), (by first | rfl | (simp; done) | (simp [*]; done)), H', ⟨Nat.le_refl _⟩, by repeat (first | exact Drawn0.refl _ | apply Drawn0.step)⟩
  case round =>
    clear H'
    try clear c2
    try clear p2
    obtain ⟨x5_1, rfl, HA, HK1, ⟨m1, rfl⟩⟩ := hrel
    cases gk with
    | zero => exact absurd HA.out (by simp [norm_Log.l0])
    | succ k1 =>
      have H := HA.out
      clear HA
      simp only [norm_Log.l0] at H
      by_cases c3 : x5_1 ≤ 12
      · rw [if_pos c3] at H
        have c3b0 : decide (x5_1 ≤ 12) = true := decide_eq_true c3
        clear c3
        by_cases c4 : 0 ≤ x5_1
        · rw [if_pos c4] at H
          have c4b0 := eq_true c4
          have c4b1 : decide (0 ≤ x5_1) = true := decide_eq_true c4
          clear c4
          obtain ⟨ji5, hji5⟩ : ∃ j_ : Int, (shl .i64 1 x5_1) = j_ := ⟨_, rfl⟩
          replace H : (if t123 = (ji5) then (some (x5_1, true)) else (norm_Log.l0 k1 t123 (wrap64 (x5_1 + 1)))) = some (r1, r2) := by first | (rw [hji5] at H; exact H) | (simp only [hji5] at H ⊢; exact H)
          have hji5_ : (IntKind.i64.wrap (1 * 2 ^ min x5_1.toNat 64)) = ji5 := hji5
          have hji5z : x5_1 ≤ 64 → (IntKind.i64.wrap (1 * 2 ^ x5_1.toNat)) = ji5 := shl_small hji5
          have hji5u : (IntKind.i64.wrap (2 ^ min x5_1.toNat 64)) = ji5 := by have h_ := hji5_; rw [Int.one_mul] at h_; exact h_
          have hji5v : x5_1 ≤ 64 → (IntKind.i64.wrap (2 ^ x5_1.toNat)) = ji5 := fun hle_ => by have h_ := hji5z hle_; rw [Int.one_mul] at h_; exact h_
          have hji5y : (wrap64 (1 * 2 ^ min x5_1.toNat 64)) = ji5 := (i64_w _).symm.trans hji5_
          have hji5x : x5_1 ≤ 64 → (wrap64 (1 * 2 ^ x5_1.toNat)) = ji5 := fun h_ => (i64_w _).symm.trans (hji5z h_)
          by_cases c6 : t123 = (ji5)
          · rw [if_pos c6] at H
            have c6b0 : (t123 == (ji5)) = true := beq_iff_eq.mpr c6
            have c6b1 : (t123 != (ji5)) = false := bne_eq_false_iff_eq.mpr c6
            clear c6
            simp only [Option.some.injEq, Prod.mk.injEq] at H
            obtain ⟨rfl, rfl⟩ := H
            go_wp2
            go_ret2
            exact ⟨by first | rfl | (simp; done) | (simp only [← hji5] <;> (first | rfl | simp)) | (simp [*]; done), by repeat (first | exact Drawn0.refl _ | apply Drawn0.step)⟩
          · rw [if_neg c6] at H
            have c6b0 : (t123 == (ji5)) = false := beq_eq_false_iff_ne.mpr c6
            have c6b1 : (t123 != (ji5)) = true := bne_iff_ne.mpr c6
            have H' := Aside0.mk H
            clear H
            go_wp2
            subst hji5
            go_roundg k1
            case measure => have := HK1.out; omega
            case rel => exact ⟨(wrap64 (x5_1 + 1)), (by first | rfl | (simp; done) | (simp [*]; done)), H', ⟨by have := HK1.out; omega⟩, by repeat (first | exact Drawn0.refl _ | apply Drawn0.step)⟩
        · rw [if_neg c4] at H
          exact absurd H (by simp)
      · rw [if_neg c3] at H
        have c3b0 : decide (x5_1 ≤ 12) = false := decide_eq_false c3
        clear c3
        simp only [Option.some.injEq, Prod.mk.injEq] at H
        obtain ⟨rfl, rfl⟩ := H
        go_wp2
        go_ret2
        exact ⟨by first | rfl | (simp; done) | (simp [*]; done), by repeat (first | exact Drawn0.refl _ | apply Drawn0.step)⟩

end Go.Proofs.Ytjbpmlpmfbeobaa.PPr
