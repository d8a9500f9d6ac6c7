/- Contracts of the layer logs (Width, Floor, Ceil, greatest at two numbers, Pick) and of its reference: each returns the plain number that XLg tells; no block that was there turns. -/
import Derived.Test.YtobbmjjnkpimaaaLg
import Derived.Test.YtobbmjjnkpimaaaShelf
import Derived.Test.YtobbmjjnkpimaaaBase
namespace Go.Proofs.Ytobbmjjnkpimaaa
open Go.RowKit Go.Proofs.YtobbmjjnkpimaaaW.PrintWords Go.Proofs.YtobbmjjnkpimaaaW.PrintLast Go.Proofs.YtobbmjjnkpimaaaW.PrintMore
attribute [local go_sem] max2_int min2_int max_two min_two max_three min_three max_four min_four
set_option linter.unusedSimpArgs false
set_option maxHeartbeats 400000 in
theorem width_any (n : Int) (w : World) (h0 : -9223372036854775808 ≤ n) (h1 : n ≤ 9223372036854775807) :
    Calls Try.prog 13 #[.int .i64 n] w fun e w' => e = .returned (.int .i64 (wid n)) ∧ w' = w := by
  by_cases hn : n < 0
  · have e : wid n = wid 0 := by rw [wid_neg n (by omega)]; rfl
    rw [e]; clear e
    go_enter Try.func13, Try.ntmps13
    go_wp2_with (go_at_call 17; refine (Try.bits_Len _ _ (by omega) (by omega)).mono ?_; rintro e w' ⟨rfl, rfl⟩)
    go_ret
    exact ⟨rfl, rfl⟩
  · go_enter Try.func13, Try.ntmps13
    go_wp2_with (go_at_call 17; refine (Try.bits_Len _ _ (by omega) (by omega)).mono ?_; rintro e w' ⟨rfl, rfl⟩)
    go_ret
    exact ⟨rfl, rfl⟩
set_option maxHeartbeats 400000 in
theorem floor_any (n : Int) (w : World) (h0 : -9223372036854775808 ≤ n) (h1 : n ≤ 9223372036854775807) :
    Calls Try.prog 9 #[.int .i64 n] w fun e w' => e = .returned (.int .i64 (flo n)) ∧ w' = w := by
  have hw := wid_bd n
  go_enter Try.func9, Try.ntmps9
  go_wp2_with (go_at_call 13; refine (width_any _ _ (by omega) (by omega)).mono ?_; rintro e w' ⟨rfl, rfl⟩)
  all_goals go_ret
  all_goals simp [flo, *]
  all_goals omega
set_option maxHeartbeats 400000 in
theorem ceil_any (n : Int) (w : World) (h0 : -9223372036854775808 ≤ n) (h1 : n ≤ 9223372036854775807) :
    Calls Try.prog 11 #[.int .i64 n] w fun e w' => e = .returned (.int .i64 (cei n)) ∧ w' = w := by
  go_enter Try.func11, Try.ntmps11
  go_wp2_with (go_at_call 13; refine (width_any _ _ (by omega) (by omega)).mono ?_; rintro e w' ⟨rfl, rfl⟩)
  all_goals go_ret
  all_goals simp [cei, *]
  all_goals omega
set_option maxHeartbeats 1000000 in
theorem greatest_two (f x y : Int) (b : Nat) (w : World) (hx : w.cell? ⟨b, 0, none⟩ = some (.int .i64 x)) (hy : w.cell? ⟨b, 1, none⟩ = some (.int .i64 y)) :
    Calls Try.prog 18 #[.int .i64 f, .slice (some ⟨b, 0, none⟩) 2 2] w fun e w' => e = .returned (.int .i64 (mx2 (mx2 f x) y)) ∧ w = w' := by
  go_enter Try.func18, Try.ntmps18
  go_wp2
  go_loop [0, 9] (fun t i => (t = .int .i64 f ∧ i = .int .i64 0) ∨ (t = .int .i64 (mx2 f x) ∧ i = .int .i64 1) ∨ (t = .int .i64 (mx2 (mx2 f x) y) ∧ i = .int .i64 2)) (fun _ i => 3 - (intOf i).toNat)
  case atStart => exact .inl ⟨rfl, rfl⟩
  case round =>
    rcases hrel with ⟨rfl, rfl⟩ | ⟨rfl, rfl⟩ | ⟨rfl, rfl⟩
    · go_wp2
      all_goals go_round
      all_goals first | (case measure => simp [intOf]) | skip
      all_goals (right; left; simp [mx2, *])
    · go_wp2
      all_goals go_round
      all_goals first | (case measure => simp [intOf]) | skip
      all_goals (right; right; simp [mx2, *])
    · go_wp2
      go_ret
      exact ⟨rfl, rfl⟩
set_option maxHeartbeats 1000000 in
theorem pick_any (n m t : Int) (w : World) (h0 : -9223372036854775808 ≤ n) (h1 : n ≤ 9223372036854775807) (h2 : -9223372036854775808 ≤ m) (h3 : m ≤ 9223372036854775807) :
    Calls Try.prog 15 #[.int .i64 n, .int .i64 m, .int .i64 t] w fun e w' => e = .returned (.int .i64 (pic n m t)) ∧ Below w.heap.size w w' := by
  have hf := flo_bd n
  have hc := cei_bd m
  by_cases ht : t < flo n - 2
  all_goals
    go_enter Try.func15, Try.ntmps15
    go_wp2_with (first | (go_at_call 9; refine (floor_any _ _ h0 h1).mono ?_; rintro e w' ⟨rfl, rfl⟩) | (go_at_call 11; refine (ceil_any _ _ h2 h3).mono ?_; rintro e w' ⟨rfl, rfl⟩) | (go_at_call 18; refine (greatest_two _ 5 (cei m) _ _ (by simp) (by simp)).mono ?_; rintro e w' ⟨rfl, rfl⟩))
    go_ret
    exact ⟨by unfold pic; first | (rw [if_pos (by omega)]; rfl) | (rw [if_neg (by omega)]; rfl), (Below.refl _ _).alloc (Nat.le_refl _) _⟩
set_option maxHeartbeats 1000000 in
theorem rfloor_any (n : Int) (w : World) (h1 : n ≤ 1099511627776) :
    Calls Try.prog 10 #[.int .i64 n] w fun e w' => e = .returned (.int .i64 (flo n)) ∧ w = w' := by
  go_enter Try.func10, Try.ntmps10
  go_wp2
  go_loop [3, 4] (fun c q => ∃ k : Nat, k ≤ 40 ∧ (p2 k ≤ n ∨ k = 0) ∧ c = .int .i64 k ∧ q = .int .i64 (p2 (k + 1))) (fun c _ => 60 - (intOf c).toNat)
  case atStart => exact ⟨0, by omega, .inr rfl, rfl, rfl⟩
  case round =>
    obtain ⟨k, hk, hp, rfl, rfl⟩ := hrel
    have hb : p2 (k + 1) ≤ p2 41 := p2_mono (by omega)
    have hb0 := p2_pos (k + 1)
    have hb1 : p2 41 = 2199023255552 := by decide
    have hs := Lib.hid (p2_succ (k + 1))
    replace hb1 := Lib.hid hb1
    replace hb : p2 (k + 1) ≤ 2199023255552 := by have := hb1.out; omega
    by_cases hq : p2 (k + 1) ≤ n
    · have hk2 : k + 1 < 41 := by
        apply p2_lt; have := hb1.out; omega
      go_wp2
      go_round
      case rel => exact ⟨k + 1, by omega, .inl hq, by go_num, by rw [hs.out]⟩
      case measure => simp [intOf]; omega
    · have e : flo n = k := by
        rcases hp with hp | rfl
        · exact flo_of n k hp (by omega) (by omega)
        · exact flo_small n (by rw [show (0:Nat) + 1 = 1 from rfl, p2_1] at hq; omega)
      have E := Lib.hid e
      clear e
      go_wp2
      go_ret
      exact ⟨by rw [E.out]; rfl, rfl⟩
set_option maxHeartbeats 1000000 in
theorem rceil_any (n : Int) (w : World) (h1 : n ≤ 1099511627776) :
    Calls Try.prog 12 #[.int .i64 n] w fun e w' => e = .returned (.int .i64 (cei n)) ∧ w = w' := by
  go_enter Try.func12, Try.ntmps12
  go_wp2
  go_loop [3, 4] (fun c q => ∃ k : Nat, k ≤ 41 ∧ (1 ≤ k → p2 (k - 1) < n) ∧ c = .int .i64 k ∧ q = .int .i64 (p2 k)) (fun c _ => 60 - (intOf c).toNat)
  case atStart => exact ⟨0, by omega, by omega, rfl, rfl⟩
  case round =>
    obtain ⟨k, hk, hp, rfl, rfl⟩ := hrel
    have hb : p2 k ≤ p2 41 := p2_mono (by omega)
    have hb0 := p2_pos k
    have hb1 : p2 41 = 2199023255552 := by decide
    have hs := Lib.hid (p2_succ k)
    replace hb1 := Lib.hid hb1
    replace hb : p2 k ≤ 2199023255552 := by have := hb1.out; omega
    by_cases hq : p2 k < n
    · have hk2 : k < 41 := by
        apply p2_lt; have := hb1.out; omega
      have HP := Lib.hid hp
      clear hp
      go_wp2
      go_round
      case rel => exact ⟨k + 1, by omega, by intro _; simpa using hq, by go_num, by rw [hs.out]⟩
      case measure => simp [intOf]; omega
    · have e : cei n = k := by
        rcases Nat.eq_zero_or_pos k with rfl | hk0
        · exact cei_one n (by rw [p2_0] at hq; omega)
        · obtain ⟨m, rfl⟩ : ∃ m, k = m + 1 := ⟨k - 1, by omega⟩
          exact cei_of n m (by simpa using hp (by omega)) (by omega) (by omega)
      have E := Lib.hid e
      clear e hp
      go_wp2
      go_ret
      exact ⟨by rw [E.out]; rfl, rfl⟩
set_option maxHeartbeats 1000000 in
theorem rwidth_any (n : Int) (w : World) (h0 : -9223372036854775808 ≤ n) (h1 : n ≤ 9223372036854775807) :
    Calls Try.prog 14 #[.int .i64 n] w fun e w' => e = .returned (.int .i64 (wid n)) ∧ w = w' := by
  go_enter Try.func14, Try.ntmps14
  go_wp2
  go_loop [0, 3] (fun x c => ∃ m k : Int, -9223372036854775808 ≤ m ∧ m ≤ 9223372036854775807 ∧ 0 ≤ k ∧ wid n = wid m + k ∧ x = .int .i64 m ∧ c = .int .i64 k) (fun x _ => (intOf x).toNat)
  case atStart => exact ⟨n, 0, h0, h1, by omega, by omega, rfl, rfl⟩
  case round =>
    obtain ⟨m, k, hm0, hm1, hk, he, rfl, rfl⟩ := hrel
    have hw := wid_bd n
    have hm := wid_bd m
    by_cases hq : 0 < m
    · have hh := wid_half m hq (by omega)
      have HE := Lib.hid he
      have HH := Lib.hid hh
      have hk1 : k ≤ 64 := by omega
      clear he hh
      go_wp2
      go_round
      case rel => exact ⟨m / 2, k + 1, by omega, by omega, by omega, by have := HE.out; have := HH.out; omega, rfl, rfl⟩
      case measure => simp [intOf]; omega
    · have e : wid n = k := by rw [wid_neg m (by omega)] at he; omega
      have E := Lib.hid e
      clear e he
      go_wp2
      go_ret
      exact ⟨by rw [E.out]; rfl, rfl⟩
set_option maxHeartbeats 1000000 in
theorem rpick_any (n m t : Int) (w : World) (h0 : n ≤ 1099511627776) (h1 : m ≤ 1099511627776) :
    Calls Try.prog 16 #[.int .i64 n, .int .i64 m, .int .i64 t] w fun e w' => e = .returned (.int .i64 (pic n m t)) ∧ w = w' := by
  have hf := flo_bd n
  have hc := cei_bd m
  go_enter Try.func16, Try.ntmps16
  go_wp2_with (first | (go_at_call 10; refine (rfloor_any _ _ h0).mono ?_; rintro e w' ⟨rfl, rfl⟩) | (go_at_call 12; refine (rceil_any _ _ h1).mono ?_; rintro e w' ⟨rfl, rfl⟩))
  all_goals go_ret
  all_goals refine ⟨ret_int ?_, rfl⟩
  all_goals (show _ = pic n m t; simp only [pic, mx2]; (repeat' split at *) <;> omega)
end Go.Proofs.Ytobbmjjnkpimaaa
