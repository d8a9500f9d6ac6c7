/- The statements of the layer logs: each law's walk, out of the contracts. -/
import Derived.Test.YtobbmjjnkpimaaaLgc
import Derived.OpenShut
namespace Go.Proofs.Ytobbmjjnkpimaaa
open Go.RowKit Go.Proofs.YtobbmjjnkpimaaaW.PrintWords Go.Proofs.YtobbmjjnkpimaaaW.PrintLast Go.Proofs.YtobbmjjnkpimaaaW.PrintMore
attribute [local go_sem] max2_int min2_int max_two min_two max_three min_three max_four min_four
set_option linter.unusedSimpArgs false
set_option linter.unusedVariables false
theorem shl_p2 (f : Int) (h0 : 0 ≤ f) (h : f ≤ 62) : wrap64 (2 ^ f.toNat) = p2 f.toNat := by
  have := p2_lt63 f.toNat (by omega); have := p2_pos f.toNat
  exact w64 (pow_p2 _) (by omega) (by omega)
theorem shl_p2' (f : Int) (h0 : 1 ≤ f) (h : f ≤ 62) : wrap64 (2 ^ (f.toNat - 1)) = p2 (f.toNat - 1) := by
  have := p2_lt63 (f.toNat - 1) (by omega); have := p2_pos (f.toNat - 1)
  exact w64 (pow_p2 _) (by omega) (by omega)
theorem shl2_p2 (f : Int) (h0 : 0 ≤ f) (h : f ≤ 61) : wrap64 (2 * 2 ^ f.toNat) = p2 (f.toNat + 1) := by
  have := p2_lt63 (f.toNat + 1) (by omega); have := p2_pos (f.toNat + 1)
  exact w64 (by rw [pow_p2, p2_succ]) (by omega) (by omega)
set_option maxHeartbeats 1000000 in
theorem awake07 (w : World) :
    Calls Try.prog 8 #[] w fun e w' => e = .returned (.bool true) ∧ Below w.heap.size w w' := by
  have e1 : flo 9 = 3 := by decide
  have e2 : cei 9 = 4 := by decide
  have e3 : wid 9 = 4 := by decide
  have e4 : pic 1000 3 11 = 7 := by decide
  have e5 : pic 1000 200 11 = 8 := by decide
  have HB := Below.refl w.heap.size w
  go_enter Try.func8, Try.ntmps8
  go_wp2_with (first
    | (go_at_call 8; refine (awake07 _).mono ?_; rintro e w' ⟨rfl, hb⟩; replace HB := below_then' HB hb; clear hb)
    | (go_at_call 9; refine (floor_any _ _ (by omega) (by omega)).mono ?_; rintro e w' ⟨rfl, rfl⟩)
    | (go_at_call 11; refine (ceil_any _ _ (by omega) (by omega)).mono ?_; rintro e w' ⟨rfl, rfl⟩)
    | (go_at_call 13; refine (width_any _ _ (by omega) (by omega)).mono ?_; rintro e w' ⟨rfl, rfl⟩)
    | (go_at_call 15; refine (pick_any _ _ _ _ (by omega) (by omega) (by omega) (by omega)).mono ?_; rintro e w' ⟨rfl, hb⟩; replace HB := below_then' HB hb; clear hb)
    | (go_at_call 10; refine (rfloor_any _ _ (by omega)).mono ?_; rintro e w' ⟨rfl, rfl⟩)
    | (go_at_call 12; refine (rceil_any _ _ (by omega)).mono ?_; rintro e w' ⟨rfl, rfl⟩)
    | (go_at_call 14; refine (rwidth_any _ _ (by omega) (by omega)).mono ?_; rintro e w' ⟨rfl, rfl⟩)
    | (go_at_call 16; refine (rpick_any _ _ _ _ (by omega) (by omega)).mono ?_; rintro e w' ⟨rfl, rfl⟩))
  go_ret
  exact ⟨rfl, HB⟩
set_option maxHeartbeats 2000000 in
theorem tells_walk (a b c : Int) (w : World) (w0 : (Lit.int .i64 a).wf = true) (w1 : (Lit.int .i64 b).wf = true) (w2 : (Lit.int .i64 c).wf = true) :
    Calls Try.prog 3 #[.int .i64 a, .int .i64 b, .int .i64 c] w fun e w' => e = .returned (.bool true) ∧ Below w.heap.size w w' := by
  have b0 := bounds_i64 w0
  have b1 := bounds_i64 w1
  have HB := Below.refl w.heap.size w
  clear w0 w1 w2
  by_cases h0 : a ≤ 1099511627776
  · by_cases h1 : b ≤ 1099511627776
    · by_cases h2 : c ≤ 1099511627776
      · go_enter Try.func3, Try.ntmps3
        go_wp2_with (first
    | (go_at_call 8; refine (awake07 _).mono ?_; rintro e w' ⟨rfl, hb⟩; replace HB := below_then' HB hb; clear hb)
    | (go_at_call 9; refine (floor_any _ _ (by omega) (by omega)).mono ?_; rintro e w' ⟨rfl, rfl⟩)
    | (go_at_call 11; refine (ceil_any _ _ (by omega) (by omega)).mono ?_; rintro e w' ⟨rfl, rfl⟩)
    | (go_at_call 13; refine (width_any _ _ (by omega) (by omega)).mono ?_; rintro e w' ⟨rfl, rfl⟩)
    | (go_at_call 15; refine (pick_any _ _ _ _ (by omega) (by omega) (by omega) (by omega)).mono ?_; rintro e w' ⟨rfl, hb⟩; replace HB := below_then' HB hb; clear hb)
    | (go_at_call 10; refine (rfloor_any _ _ (by omega)).mono ?_; rintro e w' ⟨rfl, rfl⟩)
    | (go_at_call 12; refine (rceil_any _ _ (by omega)).mono ?_; rintro e w' ⟨rfl, rfl⟩)
    | (go_at_call 14; refine (rwidth_any _ _ (by omega) (by omega)).mono ?_; rintro e w' ⟨rfl, rfl⟩)
    | (go_at_call 16; refine (rpick_any _ _ _ _ (by omega) (by omega)).mono ?_; rintro e w' ⟨rfl, rfl⟩))
        go_ret
        exact ⟨rfl, HB⟩
      · go_enter Try.func3, Try.ntmps3
        go_wp2_with (first
    | (go_at_call 8; refine (awake07 _).mono ?_; rintro e w' ⟨rfl, hb⟩; replace HB := below_then' HB hb; clear hb)
    | (go_at_call 9; refine (floor_any _ _ (by omega) (by omega)).mono ?_; rintro e w' ⟨rfl, rfl⟩)
    | (go_at_call 11; refine (ceil_any _ _ (by omega) (by omega)).mono ?_; rintro e w' ⟨rfl, rfl⟩)
    | (go_at_call 13; refine (width_any _ _ (by omega) (by omega)).mono ?_; rintro e w' ⟨rfl, rfl⟩)
    | (go_at_call 15; refine (pick_any _ _ _ _ (by omega) (by omega) (by omega) (by omega)).mono ?_; rintro e w' ⟨rfl, hb⟩; replace HB := below_then' HB hb; clear hb)
    | (go_at_call 10; refine (rfloor_any _ _ (by omega)).mono ?_; rintro e w' ⟨rfl, rfl⟩)
    | (go_at_call 12; refine (rceil_any _ _ (by omega)).mono ?_; rintro e w' ⟨rfl, rfl⟩)
    | (go_at_call 14; refine (rwidth_any _ _ (by omega) (by omega)).mono ?_; rintro e w' ⟨rfl, rfl⟩)
    | (go_at_call 16; refine (rpick_any _ _ _ _ (by omega) (by omega)).mono ?_; rintro e w' ⟨rfl, rfl⟩))
        go_ret
        exact ⟨rfl, HB⟩
    · go_enter Try.func3, Try.ntmps3
      go_wp2_with (first
    | (go_at_call 8; refine (awake07 _).mono ?_; rintro e w' ⟨rfl, hb⟩; replace HB := below_then' HB hb; clear hb)
    | (go_at_call 9; refine (floor_any _ _ (by omega) (by omega)).mono ?_; rintro e w' ⟨rfl, rfl⟩)
    | (go_at_call 11; refine (ceil_any _ _ (by omega) (by omega)).mono ?_; rintro e w' ⟨rfl, rfl⟩)
    | (go_at_call 13; refine (width_any _ _ (by omega) (by omega)).mono ?_; rintro e w' ⟨rfl, rfl⟩)
    | (go_at_call 15; refine (pick_any _ _ _ _ (by omega) (by omega) (by omega) (by omega)).mono ?_; rintro e w' ⟨rfl, hb⟩; replace HB := below_then' HB hb; clear hb)
    | (go_at_call 10; refine (rfloor_any _ _ (by omega)).mono ?_; rintro e w' ⟨rfl, rfl⟩)
    | (go_at_call 12; refine (rceil_any _ _ (by omega)).mono ?_; rintro e w' ⟨rfl, rfl⟩)
    | (go_at_call 14; refine (rwidth_any _ _ (by omega) (by omega)).mono ?_; rintro e w' ⟨rfl, rfl⟩)
    | (go_at_call 16; refine (rpick_any _ _ _ _ (by omega) (by omega)).mono ?_; rintro e w' ⟨rfl, rfl⟩))
      go_ret
      exact ⟨rfl, HB⟩
  · go_enter Try.func3, Try.ntmps3
    go_wp2_with (first
    | (go_at_call 8; refine (awake07 _).mono ?_; rintro e w' ⟨rfl, hb⟩; replace HB := below_then' HB hb; clear hb)
    | (go_at_call 9; refine (floor_any _ _ (by omega) (by omega)).mono ?_; rintro e w' ⟨rfl, rfl⟩)
    | (go_at_call 11; refine (ceil_any _ _ (by omega) (by omega)).mono ?_; rintro e w' ⟨rfl, rfl⟩)
    | (go_at_call 13; refine (width_any _ _ (by omega) (by omega)).mono ?_; rintro e w' ⟨rfl, rfl⟩)
    | (go_at_call 15; refine (pick_any _ _ _ _ (by omega) (by omega) (by omega) (by omega)).mono ?_; rintro e w' ⟨rfl, hb⟩; replace HB := below_then' HB hb; clear hb)
    | (go_at_call 10; refine (rfloor_any _ _ (by omega)).mono ?_; rintro e w' ⟨rfl, rfl⟩)
    | (go_at_call 12; refine (rceil_any _ _ (by omega)).mono ?_; rintro e w' ⟨rfl, rfl⟩)
    | (go_at_call 14; refine (rwidth_any _ _ (by omega) (by omega)).mono ?_; rintro e w' ⟨rfl, rfl⟩)
    | (go_at_call 16; refine (rpick_any _ _ _ _ (by omega) (by omega)).mono ?_; rintro e w' ⟨rfl, rfl⟩))
    go_ret
    exact ⟨rfl, HB⟩
set_option maxHeartbeats 2000000 in
theorem between_walk (a : Int) (w : World) (w0 : (Lit.int .i64 a).wf = true) :
    Calls Try.prog 4 #[.int .i64 a] w fun e w' => e = .returned (.bool true) ∧ Below w.heap.size w w' := by
  have b0 := bounds_i64 w0
  have HB := Below.refl w.heap.size w
  clear w0
  by_cases h0 : 1 ≤ a
  · by_cases h1 : a ≤ 1099511627776
    · obtain ⟨F, hF⟩ : ∃ F : Nat, flo a = F := ⟨(flo a).toNat, by have := flo_bd a; omega⟩
      obtain ⟨C, hC⟩ : ∃ C : Nat, cei a = C := ⟨(cei a).toNat, by have := cei_bd a; omega⟩
      obtain ⟨s1, s2, s3⟩ := flo_spec a h0 (by omega)
      have f1 : flo a ≤ ((40 : Nat) : Int) := flo_le a 40 (by rw [show p2 (40 + 1) = 2199023255552 from by decide]; omega) (by omega)
      have c1 : cei a ≤ ((40 : Nat) : Int) := cei_le a 40 (by rw [show p2 40 = 1099511627776 from by decide]; omega) (by omega)
      have e1 := shl_p2 (flo a) (by omega) (by omega)
      have e2 := shl2_p2 (flo a) (by omega) (by omega)
      have e3 := shl_p2 (cei a) (by omega) (by omega)
      have e4 : 1 ≤ cei a → wrap64 (2 ^ ((cei a).toNat - 1)) = p2 ((cei a).toNat - 1) := fun h => shl_p2' (cei a) h (by omega)
      have cc : a ≤ p2 (cei a).toNat ∧ (cei a = 0 ∨ 1 ≤ cei a ∧ p2 ((cei a).toNat - 1) < a) := by
        by_cases h2 : 2 ≤ a
        · obtain ⟨x, y, z⟩ := cei_spec a h2 (by omega)
          exact ⟨z, .inr ⟨x, y⟩⟩
        · rw [cei_one a (by omega)]; have := p2_pos (0 : Int).toNat; exact ⟨by omega, .inl rfl⟩
      have EQ := between_eq a h0 (by omega)
      rw [hF] at s1 s2 s3 f1 e1 e2 EQ
      rw [hC] at c1 e3 e4 cc EQ
      rw [Int.toNat_natCast] at s1 s2 e1 e2 e3 e4 cc EQ
      have F1 : F ≤ 40 := by omega
      have C1 : C ≤ 40 := by omega
      obtain ⟨c2, c3⟩ := cc
      clear f1 c1 b0
      replace EQ := Lib.hid EQ
      rcases Nat.eq_zero_or_pos C with rfl | hC0
      · clear c3 e4
        go_enter Try.func4, Try.ntmps4
        go_wp2_with (first
    | (go_at_call 8; refine (awake07 _).mono ?_; rintro e w' ⟨rfl, hb⟩; replace HB := below_then' HB hb; clear hb)
    | (go_at_call 9; refine (floor_any _ _ (by omega) (by omega)).mono ?_; rintro e w' ⟨rfl, rfl⟩)
    | (go_at_call 11; refine (ceil_any _ _ (by omega) (by omega)).mono ?_; rintro e w' ⟨rfl, rfl⟩)
    | (go_at_call 13; refine (width_any _ _ (by omega) (by omega)).mono ?_; rintro e w' ⟨rfl, rfl⟩)
    | (go_at_call 15; refine (pick_any _ _ _ _ (by omega) (by omega) (by omega) (by omega)).mono ?_; rintro e w' ⟨rfl, hb⟩; replace HB := below_then' HB hb; clear hb)
    | (go_at_call 10; refine (rfloor_any _ _ (by omega)).mono ?_; rintro e w' ⟨rfl, rfl⟩)
    | (go_at_call 12; refine (rceil_any _ _ (by omega)).mono ?_; rintro e w' ⟨rfl, rfl⟩)
    | (go_at_call 14; refine (rwidth_any _ _ (by omega) (by omega)).mono ?_; rintro e w' ⟨rfl, rfl⟩)
    | (go_at_call 16; refine (rpick_any _ _ _ _ (by omega) (by omega)).mono ?_; rintro e w' ⟨rfl, rfl⟩))
        go_ret
        exact ⟨ret_bool EQ.out, HB⟩
      · have d3 : p2 (C - 1) < a := by omega
        have d4 := e4 (by omega)
        have d5 : ¬ (C = 0) := by omega
        clear c3 e4
        go_enter Try.func4, Try.ntmps4
        go_wp2_with (first
    | (go_at_call 8; refine (awake07 _).mono ?_; rintro e w' ⟨rfl, hb⟩; replace HB := below_then' HB hb; clear hb)
    | (go_at_call 9; refine (floor_any _ _ (by omega) (by omega)).mono ?_; rintro e w' ⟨rfl, rfl⟩)
    | (go_at_call 11; refine (ceil_any _ _ (by omega) (by omega)).mono ?_; rintro e w' ⟨rfl, rfl⟩)
    | (go_at_call 13; refine (width_any _ _ (by omega) (by omega)).mono ?_; rintro e w' ⟨rfl, rfl⟩)
    | (go_at_call 15; refine (pick_any _ _ _ _ (by omega) (by omega) (by omega) (by omega)).mono ?_; rintro e w' ⟨rfl, hb⟩; replace HB := below_then' HB hb; clear hb)
    | (go_at_call 10; refine (rfloor_any _ _ (by omega)).mono ?_; rintro e w' ⟨rfl, rfl⟩)
    | (go_at_call 12; refine (rceil_any _ _ (by omega)).mono ?_; rintro e w' ⟨rfl, rfl⟩)
    | (go_at_call 14; refine (rwidth_any _ _ (by omega) (by omega)).mono ?_; rintro e w' ⟨rfl, rfl⟩)
    | (go_at_call 16; refine (rpick_any _ _ _ _ (by omega) (by omega)).mono ?_; rintro e w' ⟨rfl, rfl⟩))
        go_ret
        exact ⟨ret_bool EQ.out, HB⟩
    · go_enter Try.func4, Try.ntmps4
      go_wp2_with (first
    | (go_at_call 8; refine (awake07 _).mono ?_; rintro e w' ⟨rfl, hb⟩; replace HB := below_then' HB hb; clear hb)
    | (go_at_call 9; refine (floor_any _ _ (by omega) (by omega)).mono ?_; rintro e w' ⟨rfl, rfl⟩)
    | (go_at_call 11; refine (ceil_any _ _ (by omega) (by omega)).mono ?_; rintro e w' ⟨rfl, rfl⟩)
    | (go_at_call 13; refine (width_any _ _ (by omega) (by omega)).mono ?_; rintro e w' ⟨rfl, rfl⟩)
    | (go_at_call 15; refine (pick_any _ _ _ _ (by omega) (by omega) (by omega) (by omega)).mono ?_; rintro e w' ⟨rfl, hb⟩; replace HB := below_then' HB hb; clear hb)
    | (go_at_call 10; refine (rfloor_any _ _ (by omega)).mono ?_; rintro e w' ⟨rfl, rfl⟩)
    | (go_at_call 12; refine (rceil_any _ _ (by omega)).mono ?_; rintro e w' ⟨rfl, rfl⟩)
    | (go_at_call 14; refine (rwidth_any _ _ (by omega) (by omega)).mono ?_; rintro e w' ⟨rfl, rfl⟩)
    | (go_at_call 16; refine (rpick_any _ _ _ _ (by omega) (by omega)).mono ?_; rintro e w' ⟨rfl, rfl⟩))
      go_ret
      exact ⟨rfl, HB⟩
  · go_enter Try.func4, Try.ntmps4
    go_wp2_with (first
    | (go_at_call 8; refine (awake07 _).mono ?_; rintro e w' ⟨rfl, hb⟩; replace HB := below_then' HB hb; clear hb)
    | (go_at_call 9; refine (floor_any _ _ (by omega) (by omega)).mono ?_; rintro e w' ⟨rfl, rfl⟩)
    | (go_at_call 11; refine (ceil_any _ _ (by omega) (by omega)).mono ?_; rintro e w' ⟨rfl, rfl⟩)
    | (go_at_call 13; refine (width_any _ _ (by omega) (by omega)).mono ?_; rintro e w' ⟨rfl, rfl⟩)
    | (go_at_call 15; refine (pick_any _ _ _ _ (by omega) (by omega) (by omega) (by omega)).mono ?_; rintro e w' ⟨rfl, hb⟩; replace HB := below_then' HB hb; clear hb)
    | (go_at_call 10; refine (rfloor_any _ _ (by omega)).mono ?_; rintro e w' ⟨rfl, rfl⟩)
    | (go_at_call 12; refine (rceil_any _ _ (by omega)).mono ?_; rintro e w' ⟨rfl, rfl⟩)
    | (go_at_call 14; refine (rwidth_any _ _ (by omega) (by omega)).mono ?_; rintro e w' ⟨rfl, rfl⟩)
    | (go_at_call 16; refine (rpick_any _ _ _ _ (by omega) (by omega)).mono ?_; rintro e w' ⟨rfl, rfl⟩))
    go_ret
    exact ⟨rfl, HB⟩
set_option maxHeartbeats 2000000 in
theorem room_walk (a b c : Int) (w : World) (w0 : (Lit.int .u32 a).wf = true) (w1 : (Lit.int .u8 b).wf = true) (w2 : (Lit.int .u8 c).wf = true) :
    Calls Try.prog 5 #[.int .u32 a, .int .u8 b, .int .u8 c] w fun e w' => e = .returned (.bool true) ∧ Below w.heap.size w w' := by
  have b0 := bounds_u32 w0
  have b1 := bounds_u8 w1
  have b2 := bounds_u8 w2
  have HB := Below.refl w.heap.size w
  clear w0 w1 w2
  obtain ⟨K, hK, k1, k2, k3, k4, k5⟩ := pic_room a (b + 1) (5 + c % 16) (by omega) (by omega) (by omega) (by omega)
  have e1 := shl_p2 (K : Int) (by omega) (by omega)
  have e2 := shl_p2' (K : Int) (by omega) (by omega)
  rw [Int.toNat_natCast] at e1 e2
  have d5 : ¬ (K = 5) ∨ K = 5 := by omega
  by_cases g1 : 5 + c % 16 < (K : Int)
  · have g2 := k4 g1
    clear k4 k5 d5
    go_enter Try.func5, Try.ntmps5
    go_wp2_with (first
    | (go_at_call 8; refine (awake07 _).mono ?_; rintro e w' ⟨rfl, hb⟩; replace HB := below_then' HB hb; clear hb)
    | (go_at_call 9; refine (floor_any _ _ (by omega) (by omega)).mono ?_; rintro e w' ⟨rfl, rfl⟩)
    | (go_at_call 11; refine (ceil_any _ _ (by omega) (by omega)).mono ?_; rintro e w' ⟨rfl, rfl⟩)
    | (go_at_call 13; refine (width_any _ _ (by omega) (by omega)).mono ?_; rintro e w' ⟨rfl, rfl⟩)
    | (go_at_call 15; refine (pick_any _ _ _ _ (by omega) (by omega) (by omega) (by omega)).mono ?_; rintro e w' ⟨rfl, hb⟩; replace HB := below_then' HB hb; clear hb)
    | (go_at_call 10; refine (rfloor_any _ _ (by omega)).mono ?_; rintro e w' ⟨rfl, rfl⟩)
    | (go_at_call 12; refine (rceil_any _ _ (by omega)).mono ?_; rintro e w' ⟨rfl, rfl⟩)
    | (go_at_call 14; refine (rwidth_any _ _ (by omega) (by omega)).mono ?_; rintro e w' ⟨rfl, rfl⟩)
    | (go_at_call 16; refine (rpick_any _ _ _ _ (by omega) (by omega)).mono ?_; rintro e w' ⟨rfl, rfl⟩))
    all_goals go_ret
    all_goals exact ⟨rfl, HB⟩
  · clear k4
    rcases d5 with d5 | d5
    · by_cases g3 : flo a < (K : Int)
      · have g2 := k5 d5 g3
        clear k5
        go_enter Try.func5, Try.ntmps5
        go_wp2_with (first
    | (go_at_call 8; refine (awake07 _).mono ?_; rintro e w' ⟨rfl, hb⟩; replace HB := below_then' HB hb; clear hb)
    | (go_at_call 9; refine (floor_any _ _ (by omega) (by omega)).mono ?_; rintro e w' ⟨rfl, rfl⟩)
    | (go_at_call 11; refine (ceil_any _ _ (by omega) (by omega)).mono ?_; rintro e w' ⟨rfl, rfl⟩)
    | (go_at_call 13; refine (width_any _ _ (by omega) (by omega)).mono ?_; rintro e w' ⟨rfl, rfl⟩)
    | (go_at_call 15; refine (pick_any _ _ _ _ (by omega) (by omega) (by omega) (by omega)).mono ?_; rintro e w' ⟨rfl, hb⟩; replace HB := below_then' HB hb; clear hb)
    | (go_at_call 10; refine (rfloor_any _ _ (by omega)).mono ?_; rintro e w' ⟨rfl, rfl⟩)
    | (go_at_call 12; refine (rceil_any _ _ (by omega)).mono ?_; rintro e w' ⟨rfl, rfl⟩)
    | (go_at_call 14; refine (rwidth_any _ _ (by omega) (by omega)).mono ?_; rintro e w' ⟨rfl, rfl⟩)
    | (go_at_call 16; refine (rpick_any _ _ _ _ (by omega) (by omega)).mono ?_; rintro e w' ⟨rfl, rfl⟩))
        go_ret
        exact ⟨rfl, HB⟩
      · clear k5
        go_enter Try.func5, Try.ntmps5
        go_wp2_with (first
    | (go_at_call 8; refine (awake07 _).mono ?_; rintro e w' ⟨rfl, hb⟩; replace HB := below_then' HB hb; clear hb)
    | (go_at_call 9; refine (floor_any _ _ (by omega) (by omega)).mono ?_; rintro e w' ⟨rfl, rfl⟩)
    | (go_at_call 11; refine (ceil_any _ _ (by omega) (by omega)).mono ?_; rintro e w' ⟨rfl, rfl⟩)
    | (go_at_call 13; refine (width_any _ _ (by omega) (by omega)).mono ?_; rintro e w' ⟨rfl, rfl⟩)
    | (go_at_call 15; refine (pick_any _ _ _ _ (by omega) (by omega) (by omega) (by omega)).mono ?_; rintro e w' ⟨rfl, hb⟩; replace HB := below_then' HB hb; clear hb)
    | (go_at_call 10; refine (rfloor_any _ _ (by omega)).mono ?_; rintro e w' ⟨rfl, rfl⟩)
    | (go_at_call 12; refine (rceil_any _ _ (by omega)).mono ?_; rintro e w' ⟨rfl, rfl⟩)
    | (go_at_call 14; refine (rwidth_any _ _ (by omega) (by omega)).mono ?_; rintro e w' ⟨rfl, rfl⟩)
    | (go_at_call 16; refine (rpick_any _ _ _ _ (by omega) (by omega)).mono ?_; rintro e w' ⟨rfl, rfl⟩))
        go_ret
        exact ⟨rfl, HB⟩
    · clear k5
      subst d5
      go_enter Try.func5, Try.ntmps5
      go_wp2_with (first
    | (go_at_call 8; refine (awake07 _).mono ?_; rintro e w' ⟨rfl, hb⟩; replace HB := below_then' HB hb; clear hb)
    | (go_at_call 9; refine (floor_any _ _ (by omega) (by omega)).mono ?_; rintro e w' ⟨rfl, rfl⟩)
    | (go_at_call 11; refine (ceil_any _ _ (by omega) (by omega)).mono ?_; rintro e w' ⟨rfl, rfl⟩)
    | (go_at_call 13; refine (width_any _ _ (by omega) (by omega)).mono ?_; rintro e w' ⟨rfl, rfl⟩)
    | (go_at_call 15; refine (pick_any _ _ _ _ (by omega) (by omega) (by omega) (by omega)).mono ?_; rintro e w' ⟨rfl, hb⟩; replace HB := below_then' HB hb; clear hb)
    | (go_at_call 10; refine (rfloor_any _ _ (by omega)).mono ?_; rintro e w' ⟨rfl, rfl⟩)
    | (go_at_call 12; refine (rceil_any _ _ (by omega)).mono ?_; rintro e w' ⟨rfl, rfl⟩)
    | (go_at_call 14; refine (rwidth_any _ _ (by omega) (by omega)).mono ?_; rintro e w' ⟨rfl, rfl⟩)
    | (go_at_call 16; refine (rpick_any _ _ _ _ (by omega) (by omega)).mono ?_; rintro e w' ⟨rfl, rfl⟩))
      go_ret
      exact ⟨rfl, HB⟩
set_option maxHeartbeats 2000000 in
theorem rise_walk (a b c d : Int) (w : World) (w0 : (Lit.int .i64 a).wf = true) (w1 : (Lit.int .i64 b).wf = true) (w2 : (Lit.int .i64 c).wf = true) (w3 : (Lit.int .u32 d).wf = true) :
    Calls Try.prog 6 #[.int .i64 a, .int .i64 b, .int .i64 c, .int .u32 d] w fun e w' => e = .returned (.bool true) ∧ Below w.heap.size w w' := by
  have b0 := bounds_u32 w3
  have HB := Below.refl w.heap.size w
  clear w0 w1 w2 w3
  by_cases h0 : a ≤ 549755813888 ∧ b ≤ 549755813888 ∧ c ≤ 549755813888 ∧ 0 ≤ a ∧ 0 ≤ b ∧ 0 ≤ c
  · have m1 : pic a b c ≤ pic (a + d) b c := pic_mono (by omega) (by omega) (by omega) (by omega) (by omega)
    have m2 : pic a b c ≤ pic a (b + d) c := pic_mono (by omega) (by omega) (by omega) (by omega) (by omega)
    have m3 : pic a b c ≤ pic a b (c + d) := pic_mono (by omega) (by omega) (by omega) (by omega) (by omega)
    have m4 : flo a ≤ flo (a + d) := flo_mono (by omega) (by omega)
    have m5 : cei a ≤ cei (a + d) := cei_mono (by omega) (by omega)
    obtain ⟨h1, h2, h3, h4, h5, h6⟩ := h0
    go_enter Try.func6, Try.ntmps6
    go_wp2_with (first
    | (go_at_call 8; refine (awake07 _).mono ?_; rintro e w' ⟨rfl, hb⟩; replace HB := below_then' HB hb; clear hb)
    | (go_at_call 9; refine (floor_any _ _ (by omega) (by omega)).mono ?_; rintro e w' ⟨rfl, rfl⟩)
    | (go_at_call 11; refine (ceil_any _ _ (by omega) (by omega)).mono ?_; rintro e w' ⟨rfl, rfl⟩)
    | (go_at_call 13; refine (width_any _ _ (by omega) (by omega)).mono ?_; rintro e w' ⟨rfl, rfl⟩)
    | (go_at_call 15; refine (pick_any _ _ _ _ (by omega) (by omega) (by omega) (by omega)).mono ?_; rintro e w' ⟨rfl, hb⟩; replace HB := below_then' HB hb; clear hb)
    | (go_at_call 10; refine (rfloor_any _ _ (by omega)).mono ?_; rintro e w' ⟨rfl, rfl⟩)
    | (go_at_call 12; refine (rceil_any _ _ (by omega)).mono ?_; rintro e w' ⟨rfl, rfl⟩)
    | (go_at_call 14; refine (rwidth_any _ _ (by omega) (by omega)).mono ?_; rintro e w' ⟨rfl, rfl⟩)
    | (go_at_call 16; refine (rpick_any _ _ _ _ (by omega) (by omega)).mono ?_; rintro e w' ⟨rfl, rfl⟩))
    go_ret
    exact ⟨rfl, HB⟩
  · have h1 : 549755813888 < a ∨ (a ≤ 549755813888 ∧ (549755813888 < b ∨ (b ≤ 549755813888 ∧ (549755813888 < c ∨ (c ≤ 549755813888 ∧ (a < 0 ∨ (0 ≤ a ∧ (b < 0 ∨ (0 ≤ b ∧ c < 0))))))))) := by omega
    clear h0
    rcases h1 with h1 | ⟨g1, h1 | ⟨g2, h1 | ⟨g3, h1 | ⟨g4, h1 | ⟨g5, h1⟩⟩⟩⟩⟩
    all_goals
      go_enter Try.func6, Try.ntmps6
      go_wp2_with (first
      | (go_at_call 8; refine (awake07 _).mono ?_; rintro e w' ⟨rfl, hb⟩; replace HB := below_then' HB hb; clear hb))
      go_ret
      exact ⟨rfl, HB⟩
set_option maxHeartbeats 2000000 in
theorem double_walk (a : Int) (w : World) (w0 : (Lit.int .i64 a).wf = true) :
    Calls Try.prog 7 #[.int .i64 a] w fun e w' => e = .returned (.bool true) ∧ Below w.heap.size w w' := by
  have b0 := bounds_i64 w0
  have HB := Below.refl w.heap.size w
  clear w0
  by_cases h0 : 1 ≤ a
  · by_cases h1 : a < 549755813888
    · have e1 := wid_twice a h0 (by omega)
      have e2 := wid_double a 1 h0 (by omega) (by omega) (by omega)
      have e3 := flo_twice a h0 (by omega)
      have e4 := flo_double a 1 h0 (by omega) (by omega) (by omega)
      have e5 := cei_twice a h0 (by omega)
      have f1 := flo_bd a
      have f2 := cei_bd a
      have f3 := wid_bd a
      go_enter Try.func7, Try.ntmps7
      go_wp2_with (first
    | (go_at_call 8; refine (awake07 _).mono ?_; rintro e w' ⟨rfl, hb⟩; replace HB := below_then' HB hb; clear hb)
    | (go_at_call 9; refine (floor_any _ _ (by omega) (by omega)).mono ?_; rintro e w' ⟨rfl, rfl⟩)
    | (go_at_call 11; refine (ceil_any _ _ (by omega) (by omega)).mono ?_; rintro e w' ⟨rfl, rfl⟩)
    | (go_at_call 13; refine (width_any _ _ (by omega) (by omega)).mono ?_; rintro e w' ⟨rfl, rfl⟩)
    | (go_at_call 15; refine (pick_any _ _ _ _ (by omega) (by omega) (by omega) (by omega)).mono ?_; rintro e w' ⟨rfl, hb⟩; replace HB := below_then' HB hb; clear hb)
    | (go_at_call 10; refine (rfloor_any _ _ (by omega)).mono ?_; rintro e w' ⟨rfl, rfl⟩)
    | (go_at_call 12; refine (rceil_any _ _ (by omega)).mono ?_; rintro e w' ⟨rfl, rfl⟩)
    | (go_at_call 14; refine (rwidth_any _ _ (by omega) (by omega)).mono ?_; rintro e w' ⟨rfl, rfl⟩)
    | (go_at_call 16; refine (rpick_any _ _ _ _ (by omega) (by omega)).mono ?_; rintro e w' ⟨rfl, rfl⟩))
      go_ret
      exact ⟨rfl, HB⟩
    · go_enter Try.func7, Try.ntmps7
      go_wp2_with (first
    | (go_at_call 8; refine (awake07 _).mono ?_; rintro e w' ⟨rfl, hb⟩; replace HB := below_then' HB hb; clear hb))
      go_ret
      exact ⟨rfl, HB⟩
  · go_enter Try.func7, Try.ntmps7
    go_wp2_with (first
    | (go_at_call 8; refine (awake07 _).mono ?_; rintro e w' ⟨rfl, hb⟩; replace HB := below_then' HB hb; clear hb))
    go_ret
    exact ⟨rfl, HB⟩
end Go.Proofs.Ytobbmjjnkpimaaa
