/- Plain numbers of the layer logs: the digits of a number, its logs, the log of a table. The contract of logs.Width: the digits of a number. Contracts of the layer logs (Width, Floor, Ceil, greatest at two numbers, Pick) and of its reference: each returns the plain number that XLg tells; no block that was there turns. -/
import Derived.Lib.BitFns
import Derived.Test.YtcffmmdgjifaaaaShelf
import Derived.Test.YtcffmmdgjifaaaaBase
namespace Go.Proofs.Ytcffmmdgjifaaaa
def wid (n : Int) : Int := (Lib.bitLen n.toNat : Nat)
theorem pow_p2' (k : Nat) : (2 : Int) ^ k = ((2 ^ k : Nat) : Int) := by simp
theorem bitLenAux_ub : ∀ f x, Lib.bitLenAux f x ≤ f := by
  intro f
  induction f with
  | zero => intro x; simp [Lib.bitLenAux]
  | succ f ih => intro x; simp only [Lib.bitLenAux]; split; omega; have := ih (x / 2); omega
theorem wid_bd (n : Int) : 0 ≤ wid n ∧ wid n ≤ 64 := by
  unfold wid Lib.bitLen
  have := bitLenAux_ub 64 n.toNat
  omega
theorem wid_neg (n : Int) (h : n ≤ 0) : wid n = 0 := by
  unfold wid; rw [show n.toNat = 0 by omega]; rfl
theorem bitLenAux_spec : ∀ f x, x ≠ 0 → x < 2 ^ f → 1 ≤ Lib.bitLenAux f x ∧ 2 ^ (Lib.bitLenAux f x - 1) ≤ x ∧ x < 2 ^ (Lib.bitLenAux f x) := by
  intro f
  induction f with
  | zero => intro x h0 h1; simp at h1; omega
  | succ f ih =>
    intro x h0 h1
    simp only [Lib.bitLenAux, if_neg h0]
    by_cases hx : x / 2 = 0
    · have e : Lib.bitLenAux f (x / 2) = 0 := by rw [hx]; cases f <;> simp [Lib.bitLenAux]
      rw [e]; simp; omega
    · have h2 : x / 2 < 2 ^ f := by rw [Nat.pow_succ] at h1; omega
      obtain ⟨a, b, c⟩ := ih (x / 2) hx h2
      obtain ⟨m, hm⟩ : ∃ m, Lib.bitLenAux f (x / 2) = m + 1 := ⟨Lib.bitLenAux f (x / 2) - 1, by omega⟩
      rw [hm] at b c ⊢
      simp only [Nat.add_sub_cancel, show 1 + (m + 1) = (m + 1) + 1 by omega, Nat.pow_succ] at b c ⊢
      omega
/-- powers of two, as whole numbers -/
def p2 (k : Nat) : Int := ((2 ^ k : Nat) : Int)
theorem p2_0 : p2 0 = 1 := rfl
theorem p2_1 : p2 1 = 2 := rfl
theorem p2_succ (k : Nat) : p2 (k + 1) = 2 * p2 k := by unfold p2; rw [Nat.pow_succ]; omega
theorem p2_pos (k : Nat) : 1 ≤ p2 k := by have := Nat.two_pow_pos k; unfold p2; omega
theorem p2_mono {a b : Nat} (h : a ≤ b) : p2 a ≤ p2 b := by
  have := Nat.pow_le_pow_right (n := 2) (by omega) h
  unfold p2; omega
theorem p2_lt {a b : Nat} (h : p2 a < p2 b) : a < b := by
  rcases Nat.lt_or_ge a b with h1 | h1
  · exact h1
  · have := p2_mono h1; omega
theorem wid_spec (n : Int) (h : 1 ≤ n) (h2 : n < 18446744073709551616) : 1 ≤ wid n ∧ p2 (wid n - 1).toNat ≤ n ∧ n < p2 (wid n).toNat := by
  have := bitLenAux_spec 64 n.toNat (by omega) (by have : (2:Nat)^64 = 18446744073709551616 := by decide
                                                   omega)
  unfold wid Lib.bitLen p2
  obtain ⟨a, b, c⟩ := this
  refine ⟨by omega, ?_, ?_⟩
  · rw [show (((Lib.bitLenAux 64 n.toNat : Nat) : Int) - 1).toNat = Lib.bitLenAux 64 n.toNat - 1 by omega]; omega
  · rw [Int.toNat_natCast]; omega
theorem wid_of (n : Int) (k : Nat) (h : p2 k ≤ n) (h1 : n < p2 (k + 1)) (h2 : n < 18446744073709551616) : wid n = k + 1 := by
  have hp := p2_pos k
  obtain ⟨a, b, c⟩ := wid_spec n (by omega) h2
  have d := p2_lt (show p2 k < p2 (wid n).toNat by omega)
  have e := p2_lt (show p2 (wid n - 1).toNat < p2 (k + 1) by omega)
  omega
theorem wid_half (n : Int) (h : 0 < n) (h2 : n < 18446744073709551616) : wid n = wid (n / 2) + 1 := by
  unfold wid
  rw [Lib.bitLen_half n.toNat (by omega) (by have : (2:Nat)^64 = 18446744073709551616 := by decide
                                             omega)]
  rw [show (n / 2).toNat = n.toNat / 2 by omega]; omega
def fll (n : Int) : Int := if wid n - 1 < 0 then 0 else wid n - 1
def cei (n : Int) : Int := if n < 2 then 0 else wid (n - 1)
def mx2 (a b : Int) : Int := if a < b then b else a
def pic (n m t : Int) : Int := mx2 (mx2 (if t < fll n - 2 then t else fll n - 2) 5) (cei m)
theorem fll_bd (n : Int) : 0 ≤ fll n ∧ fll n ≤ 63 := by have := wid_bd n; unfold fll; split <;> omega
theorem cei_bd (n : Int) : 0 ≤ cei n ∧ cei n ≤ 64 := by have := wid_bd (n - 1); unfold cei; split <;> omega
theorem fll_small (n : Int) (h : n < 2) : fll n = 0 := by
  unfold fll
  by_cases h0 : n ≤ 0
  · rw [wid_neg n h0]; rfl
  · obtain rfl : n = 1 := by omega
    rfl
theorem fll_of (n : Int) (k : Nat) (h : p2 k ≤ n) (h1 : n < p2 (k + 1)) (h2 : n < 18446744073709551616) : fll n = k := by
  unfold fll; rw [wid_of n k h h1 h2]; split <;> omega
theorem fll_spec (n : Int) (h : 1 ≤ n) (h2 : n < 18446744073709551616) : p2 (fll n).toNat ≤ n ∧ n < p2 ((fll n).toNat + 1) ∧ wid n = fll n + 1 := by
  obtain ⟨a, b, c⟩ := wid_spec n h h2
  have e : fll n = wid n - 1 := by unfold fll; split <;> omega
  rw [e]; refine ⟨b, ?_, by omega⟩
  rw [show (wid n - 1).toNat + 1 = (wid n).toNat by omega]; exact c
theorem cei_spec (n : Int) (h : 2 ≤ n) (h2 : n < 18446744073709551616) : 1 ≤ cei n ∧ p2 ((cei n).toNat - 1) < n ∧ n ≤ p2 (cei n).toNat := by
  obtain ⟨a, b, c⟩ := wid_spec (n - 1) (by omega) (by omega)
  have e : cei n = wid (n - 1) := by unfold cei; split <;> omega
  rw [e]; refine ⟨a, ?_, by omega⟩
  rw [show (wid (n - 1)).toNat - 1 = (wid (n - 1) - 1).toNat by omega]; omega
theorem cei_of (n : Int) (k : Nat) (h : p2 k < n) (h1 : n ≤ p2 (k + 1)) (h2 : n < 18446744073709551616) : cei n = k + 1 := by
  have hp := p2_pos k
  unfold cei; rw [if_neg (by omega)]; exact wid_of (n - 1) k (by omega) (by omega) (by omega)
theorem cei_one (n : Int) (h : n ≤ 1) : cei n = 0 := by unfold cei; rw [if_pos (by omega)]
theorem cei_flo (n : Int) (h : 2 ≤ n) (h2 : n < 18446744073709551616) : cei n = fll (n - 1) + 1 := by
  have := fll_spec (n - 1) (by omega) (by omega)
  unfold cei; rw [if_neg (by omega)]; omega
theorem fll_mono {a b : Int} (h : a ≤ b) (h2 : b < 18446744073709551616) : fll a ≤ fll b := by
  by_cases h1 : 1 ≤ a
  · have ha := fll_spec a h1 (by omega)
    have hb := fll_spec b (by omega) h2
    have := p2_lt (show p2 (fll a).toNat < p2 ((fll b).toNat + 1) by omega)
    have := fll_bd a; have := fll_bd b
    omega
  · rw [fll_small a (by omega)]; exact (fll_bd b).1
theorem cei_mono {a b : Int} (h : a ≤ b) (h2 : b < 18446744073709551616) : cei a ≤ cei b := by
  by_cases h1 : 2 ≤ a
  · rw [cei_flo a h1 (by omega), cei_flo b (by omega) h2]
    have := fll_mono (show a - 1 ≤ b - 1 by omega) (by omega); omega
  · rw [cei_one a (by omega)]; exact (cei_bd b).1
theorem pic_mono {n m t n' m' t' : Int} (h : n ≤ n') (k : m ≤ m') (l : t ≤ t') (h2 : n' < 18446744073709551616) (h3 : m' < 18446744073709551616) : pic n m t ≤ pic n' m' t' := by
  have := fll_mono h h2
  have := cei_mono k h3
  unfold pic mx2
  repeat' split
  all_goals omega
theorem pow_p2 (k : Nat) : (2 : Int) ^ k = p2 k := pow_p2' k
theorem p2_lt63 (k : Nat) (h : k ≤ 62) : p2 k ≤ 4611686018427387904 := by have := p2_mono h; have e : p2 62 = 4611686018427387904 := by decide
                                                                          omega
theorem fll_le (n : Int) (k : Nat) (h : n < p2 (k + 1)) (h2 : n < 18446744073709551616) : fll n ≤ k := by
  by_cases h1 : 1 ≤ n
  · have ha := fll_spec n h1 h2
    have := p2_lt (show p2 (fll n).toNat < p2 (k + 1) by omega)
    have := fll_bd n
    omega
  · rw [fll_small n (by omega)]; omega
theorem cei_le (n : Int) (k : Nat) (h : n ≤ p2 k) (h2 : n < 18446744073709551616) : cei n ≤ k := by
  by_cases h1 : 2 ≤ n
  · have ha := cei_spec n h1 h2
    have := p2_lt (show p2 ((cei n).toNat - 1) < p2 k by omega)
    have := cei_bd n
    omega
  · rw [cei_one n (by omega)]; omega
/-- a number between two powers -/
theorem between_eq (a : Int) (h : 1 ≤ a) (h2 : a < 18446744073709551616) : ((cei a == fll a) == (a == p2 (fll a).toNat)) = true := by
  obtain ⟨s1, s2, s3⟩ := fll_spec a h h2
  have hf := fll_bd a
  rw [beq_iff_eq, Bool.eq_iff_iff, beq_iff_eq, beq_iff_eq]
  by_cases h1 : 2 ≤ a
  · have c := cei_spec a h1 h2
    constructor
    · intro e; rw [e] at c; omega
    · intro e
      have := p2_lt (show p2 ((cei a).toNat - 1) < p2 (fll a).toNat by omega)
      have h3 : p2 (fll a).toNat ≤ p2 (cei a).toNat := by omega
      have : (fll a).toNat ≤ (cei a).toNat := by
        rcases Nat.lt_or_ge (cei a).toNat (fll a).toNat with g | g
        · have := p2_mono (show (cei a).toNat + 1 ≤ (fll a).toNat by omega)
          rw [p2_succ] at this
          have := p2_pos (cei a).toNat
          omega
        · exact g
      omega
  · obtain rfl : a = 1 := by omega
    decide
theorem wid_double (a c : Int) (h : 1 ≤ a) (h2 : a < 9223372036854775807) (hc : 0 ≤ c) (hc1 : c ≤ 1) : wid (2 * a + c) = wid a + 1 := by
  rw [wid_half (2 * a + c) (by omega) (by omega), show (2 * a + c) / 2 = a by omega]
theorem wid_twice (a : Int) (h : 1 ≤ a) (h2 : a < 9223372036854775807) : wid (2 * a) = wid a + 1 := by
  have := wid_double a 0 h h2 (by omega) (by omega); simpa using this
theorem fll_double (a c : Int) (h : 1 ≤ a) (h2 : a < 9223372036854775807) (hc : 0 ≤ c) (hc1 : c ≤ 1) : fll (2 * a + c) = fll a + 1 := by
  have := wid_double a c h h2 hc hc1
  have s := wid_spec a h (by omega)
  unfold fll; rw [this]; (repeat' split) <;> omega
theorem fll_twice (a : Int) (h : 1 ≤ a) (h2 : a < 9223372036854775807) : fll (2 * a) = fll a + 1 := by
  have := fll_double a 0 h h2 (by omega) (by omega); simpa using this
theorem cei_twice (a : Int) (h : 1 ≤ a) (h2 : a < 9223372036854775807) : cei (2 * a) = cei a + 1 := by
  by_cases h1 : 2 ≤ a
  · have := wid_double (a - 1) 1 (by omega) (by omega) (by omega) (by omega)
    unfold cei; rw [if_neg (by omega), if_neg (by omega), ← this]; congr 1; omega
  · obtain rfl : a = 1 := by omega
    decide
/-- what is told of a table's log -/
theorem pic_room (n many t : Int) (ht : 5 ≤ t) (ht2 : t ≤ 20) (hm : 1 ≤ many) (hm2 : many ≤ 256) : ∃ K : Nat, pic n many t = K ∧ 5 ≤ K ∧ K ≤ 20 ∧ many ≤ p2 K ∧ (t < K → p2 (K - 1) < many) ∧ (¬ (K = 5) → fll n < K → p2 (K - 1) < many) := by
  have hc := cei_bd many
  have hf := fll_bd n
  have c8 := cei_le many 8 (by rw [show p2 8 = 256 from by decide]; omega) (by omega)
  have hK : 5 ≤ pic n many t ∧ pic n many t ≤ 20 ∧ cei many ≤ pic n many t ∧ (t < pic n many t → pic n many t = cei many) ∧ (¬ (pic n many t = 5) → fll n < pic n many t → pic n many t = cei many) := by
    unfold pic mx2
    (repeat' split) <;> omega
  have hs : many ≤ p2 (cei many).toNat ∧ (1 ≤ cei many → p2 ((cei many).toNat - 1) < many) := by
    by_cases h1 : 2 ≤ many
    · obtain ⟨x, y, z⟩ := cei_spec many h1 (by omega)
      exact ⟨z, fun _ => y⟩
    · rw [cei_one many (by omega)]; have := p2_pos (0 : Int).toNat; exact ⟨by omega, by omega⟩
  refine ⟨(pic n many t).toNat, by omega, by omega, by omega, ?_, ?_, ?_⟩
  · have := p2_mono (show (cei many).toNat ≤ (pic n many t).toNat by omega); omega
  · intro h; have e := hK.2.2.2.1 (by omega); rw [e]; exact hs.2 (by omega)
  · intro h h'; have e := hK.2.2.2.2 (by omega) (by omega); rw [e]; exact hs.2 (by omega)
end Go.Proofs.Ytcffmmdgjifaaaa
namespace Go.Proofs.Ytcffmmdgjifaaaa
open Go.RowKit Go.Proofs.YtcffmmdgjifaaaaW.PrintWords Go.Proofs.YtcffmmdgjifaaaaW.PrintLast Go.Proofs.YtcffmmdgjifaaaaW.PrintMore
attribute [local go_sem] max2_int min2_int max_two min_two max_three min_three max_four min_four
set_option linter.unusedSimpArgs false
set_option maxHeartbeats 400000 in
theorem width_any (n : Int) (w : World) (h0 : -9223372036854775808 ≤ n) (h1 : n ≤ 9223372036854775807) :
    Calls Try.prog 65 #[.int .i64 n] w fun e w' => e = .returned (.int .i64 (wid n)) ∧ w' = w := by
  by_cases hn : n < 0
  · have e : wid n = wid 0 := by rw [wid_neg n (by omega)]; rfl
    rw [e]; clear e
    go_enter Try.func65, Try.ntmps65
    go_wp2_with (go_at_call 69; refine (Try.bits_Len _ _ (by omega) (by omega)).mono ?_; rintro e w' ⟨rfl, rfl⟩)
    go_ret
    exact ⟨rfl, rfl⟩
  · go_enter Try.func65, Try.ntmps65
    go_wp2_with (go_at_call 69; refine (Try.bits_Len _ _ (by omega) (by omega)).mono ?_; rintro e w' ⟨rfl, rfl⟩)
    go_ret
    exact ⟨rfl, rfl⟩
end Go.Proofs.Ytcffmmdgjifaaaa
namespace Go.Proofs.Ytcffmmdgjifaaaa
open Go.RowKit Go.Proofs.YtcffmmdgjifaaaaW.PrintWords Go.Proofs.YtcffmmdgjifaaaaW.PrintLast Go.Proofs.YtcffmmdgjifaaaaW.PrintMore
attribute [local go_sem] max2_int min2_int max_two min_two max_three min_three max_four min_four
set_option linter.unusedSimpArgs false
set_option maxHeartbeats 400000 in
theorem floor_any (n : Int) (w : World) (h0 : -9223372036854775808 ≤ n) (h1 : n ≤ 9223372036854775807) :
    Calls Try.prog 53 #[.int .i64 n] w fun e w' => e = .returned (.int .i64 (fll n)) ∧ w' = w := by
  have hw := wid_bd n
  go_enter Try.func53, Try.ntmps53
  go_wp2_with (go_at_call 65; refine (width_any _ _ (by omega) (by omega)).mono ?_; rintro e w' ⟨rfl, rfl⟩)
  all_goals go_ret
  all_goals simp [fll, *]
  all_goals omega
set_option maxHeartbeats 400000 in
theorem ceil_any (n : Int) (w : World) (h0 : -9223372036854775808 ≤ n) (h1 : n ≤ 9223372036854775807) :
    Calls Try.prog 54 #[.int .i64 n] w fun e w' => e = .returned (.int .i64 (cei n)) ∧ w' = w := by
  go_enter Try.func54, Try.ntmps54
  go_wp2_with (go_at_call 65; refine (width_any _ _ (by omega) (by omega)).mono ?_; rintro e w' ⟨rfl, rfl⟩)
  all_goals go_ret
  all_goals simp [cei, *]
  all_goals omega
set_option maxHeartbeats 1000000 in
theorem greatest_two (f x y : Int) (b : Nat) (w : World) (hx : w.cell? ⟨b, 0, none⟩ = some (.int .i64 x)) (hy : w.cell? ⟨b, 1, none⟩ = some (.int .i64 y)) :
    Calls Try.prog 52 #[.int .i64 f, .slice (some ⟨b, 0, none⟩) 2 2] w fun e w' => e = .returned (.int .i64 (mx2 (mx2 f x) y)) ∧ w = w' := by
  go_enter Try.func52, Try.ntmps52
  go_wp2
  go_loop [0, 9] (fun t i => (t = .int .i64 f ∧ i = .int .i64 0) ∨ (t = .int .i64 (mx2 f x) ∧ i = .int .i64 1) ∨ (t = .int .i64 (mx2 (mx2 f x) y) ∧ i = .int .i64 2)) (fun _ i => 3 - (intOf i).toNat)
  case atStart => exact .inl ⟨rfl, rfl⟩
  case round =>
    rcases hrel with ⟨rfl, rfl⟩ | ⟨rfl, rfl⟩ | ⟨rfl, rfl⟩
    · go_wp2
      all_goals go_round
      all_goals first | (case measure => simp [intOf]) | skip
      all_goals (right; left; simp [mx2, *])
    · go_wp2
      all_goals go_round
      all_goals first | (case measure => simp [intOf]) | skip
      all_goals (right; right; simp [mx2, *])
    · go_wp2
      go_ret
      exact ⟨rfl, rfl⟩
set_option maxHeartbeats 1000000 in
theorem pick_any (n m t : Int) (w : World) (h0 : -9223372036854775808 ≤ n) (h1 : n ≤ 9223372036854775807) (h2 : -9223372036854775808 ≤ m) (h3 : m ≤ 9223372036854775807) :
    Calls Try.prog 32 #[.int .i64 n, .int .i64 m, .int .i64 t] w fun e w' => e = .returned (.int .i64 (pic n m t)) ∧ Below w.heap.size w w' := by
  have hf := fll_bd n
  have hc := cei_bd m
  by_cases ht : t < fll n - 2
  all_goals
    go_enter Try.func32, Try.ntmps32
    go_wp2_with (first | (go_at_call 53; refine (floor_any _ _ h0 h1).mono ?_; rintro e w' ⟨rfl, rfl⟩) | (go_at_call 54; refine (ceil_any _ _ h2 h3).mono ?_; rintro e w' ⟨rfl, rfl⟩) | (go_at_call 52; refine (greatest_two _ 5 (cei m) _ _ (by simp) (by simp)).mono ?_; rintro e w' ⟨rfl, rfl⟩))
    go_ret
    exact ⟨by unfold pic; first | (rw [if_pos (by omega)]; rfl) | (rw [if_neg (by omega)]; rfl), (Below.refl _ _).alloc (Nat.le_refl _) _⟩
set_option maxHeartbeats 1000000 in
theorem rfloor_any (n : Int) (w : World) (h1 : n ≤ 1099511627776) :
    Calls Try.prog 56 #[.int .i64 n] w fun e w' => e = .returned (.int .i64 (fll n)) ∧ w = w' := by
  go_enter Try.func56, Try.ntmps56
  go_wp2
  go_loop [3, 4] (fun c q => ∃ k : Nat, k ≤ 40 ∧ (p2 k ≤ n ∨ k = 0) ∧ c = .int .i64 k ∧ q = .int .i64 (p2 (k + 1))) (fun c _ => 60 - (intOf c).toNat)
  case atStart => exact ⟨0, by omega, .inr rfl, rfl, rfl⟩
  case round =>
    obtain ⟨k, hk, hp, rfl, rfl⟩ := hrel
    have hb : p2 (k + 1) ≤ p2 41 := p2_mono (by omega)
    have hb0 := p2_pos (k + 1)
    have hb1 : p2 41 = 2199023255552 := by decide
    have hs := Lib.hid (p2_succ (k + 1))
    replace hb1 := Lib.hid hb1
    replace hb : p2 (k + 1) ≤ 2199023255552 := by have := hb1.out; omega
    by_cases hq : p2 (k + 1) ≤ n
    · have hk2 : k + 1 < 41 := by
        apply p2_lt; have := hb1.out; omega
      go_wp2
      go_round
      case rel => exact ⟨k + 1, by omega, .inl hq, by go_num, by rw [hs.out]⟩
      case measure => simp [intOf]; omega
    · have e : fll n = k := by
        rcases hp with hp | rfl
        · exact fll_of n k hp (by omega) (by omega)
        · exact fll_small n (by rw [show (0:Nat) + 1 = 1 from rfl, p2_1] at hq; omega)
      have E := Lib.hid e
      clear e
      go_wp2
      go_ret
      exact ⟨by rw [E.out]; rfl, rfl⟩
set_option maxHeartbeats 1000000 in
theorem rceil_any (n : Int) (w : World) (h1 : n ≤ 1099511627776) :
    Calls Try.prog 57 #[.int .i64 n] w fun e w' => e = .returned (.int .i64 (cei n)) ∧ w = w' := by
  go_enter Try.func57, Try.ntmps57
  go_wp2
  go_loop [3, 4] (fun c q => ∃ k : Nat, k ≤ 41 ∧ (1 ≤ k → p2 (k - 1) < n) ∧ c = .int .i64 k ∧ q = .int .i64 (p2 k)) (fun c _ => 60 - (intOf c).toNat)
  case atStart => exact ⟨0, by omega, by omega, rfl, rfl⟩
  case round =>
    obtain ⟨k, hk, hp, rfl, rfl⟩ := hrel
    have hb : p2 k ≤ p2 41 := p2_mono (by omega)
    have hb0 := p2_pos k
    have hb1 : p2 41 = 2199023255552 := by decide
    have hs := Lib.hid (p2_succ k)
    replace hb1 := Lib.hid hb1
    replace hb : p2 k ≤ 2199023255552 := by have := hb1.out; omega
    by_cases hq : p2 k < n
    · have hk2 : k < 41 := by
        apply p2_lt; have := hb1.out; omega
      have HP := Lib.hid hp
      clear hp
      go_wp2
      go_round
      case rel => exact ⟨k + 1, by omega, by intro _; simpa using hq, by go_num, by rw [hs.out]⟩
      case measure => simp [intOf]; omega
    · have e : cei n = k := by
        rcases Nat.eq_zero_or_pos k with rfl | hk0
        · exact cei_one n (by rw [p2_0] at hq; omega)
        · obtain ⟨m, rfl⟩ : ∃ m, k = m + 1 := ⟨k - 1, by omega⟩
          exact cei_of n m (by simpa using hp (by omega)) (by omega) (by omega)
      have E := Lib.hid e
      clear e hp
      go_wp2
      go_ret
      exact ⟨by rw [E.out]; rfl, rfl⟩
set_option maxHeartbeats 1000000 in
theorem rpick_any (n m t : Int) (w : World) (h0 : n ≤ 1099511627776) (h1 : m ≤ 1099511627776) :
    Calls Try.prog 38 #[.int .i64 n, .int .i64 m, .int .i64 t] w fun e w' => e = .returned (.int .i64 (pic n m t)) ∧ w = w' := by
  have hf := fll_bd n
  have hc := cei_bd m
  go_enter Try.func38, Try.ntmps38
  go_wp2_with (first | (go_at_call 56; refine (rfloor_any _ _ h0).mono ?_; rintro e w' ⟨rfl, rfl⟩) | (go_at_call 57; refine (rceil_any _ _ h1).mono ?_; rintro e w' ⟨rfl, rfl⟩))
  all_goals go_ret
  all_goals refine ⟨ret_int ?_, rfl⟩
  all_goals (show _ = pic n m t; simp only [pic, mx2]; (repeat' split at *) <;> omega)
end Go.Proofs.Ytcffmmdgjifaaaa
