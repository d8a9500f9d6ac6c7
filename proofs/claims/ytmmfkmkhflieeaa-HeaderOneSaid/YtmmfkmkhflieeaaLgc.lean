/- Contracts of the layer logs (Width, Floor, Ceil, greatest at two numbers, Pick) and of its reference: each returns the plain number that XLg tells; no block that was there turns. -/
import Derived.Test.YtmmfkmkhflieeaaLw
import Derived.Test.YtmmfkmkhflieeaaShelf
import Derived.Test.YtmmfkmkhflieeaaBase
namespace Go.Proofs.Ytmmfkmkhflieeaa
open Go.RowKit Go.Proofs.YtmmfkmkhflieeaaW.PrintWords Go.Proofs.YtmmfkmkhflieeaaW.PrintLast Go.Proofs.YtmmfkmkhflieeaaW.PrintMore
attribute [local go_sem] max2_int min2_int max_two min_two max_three min_three max_four min_four
set_option linter.unusedSimpArgs false
set_option maxHeartbeats 1000000 in
theorem rwidth_any (n : Int) (w : World) (h0 : -9223372036854775808 ≤ n) (h1 : n ≤ 9223372036854775807) :
    Calls Try.prog 53 #[.int .i64 n] w fun e w' => e = .returned (.int .i64 (wid n)) ∧ w = w' := by
  go_enter Try.func53, Try.ntmps53
  go_wp2
  go_loop [0, 3] (fun x c => ∃ m k : Int, -9223372036854775808 ≤ m ∧ m ≤ 9223372036854775807 ∧ 0 ≤ k ∧ wid n = wid m + k ∧ x = .int .i64 m ∧ c = .int .i64 k) (fun x _ => (intOf x).toNat)
  case atStart => exact ⟨n, 0, h0, h1, by omega, by omega, rfl, rfl⟩
  case round =>
    obtain ⟨m, k, hm0, hm1, hk, he, rfl, rfl⟩ := hrel
    have hw := wid_bd n
    have hm := wid_bd m
    by_cases hq : 0 < m
    · have hh := wid_half m hq (by omega)
      have HE := Lib.hid he
      have HH := Lib.hid hh
      have hk1 : k ≤ 64 := by omega
      clear he hh
      go_wp2
      go_round
      case rel => exact ⟨m / 2, k + 1, by omega, by omega, by omega, by have := HE.out; have := HH.out; omega, rfl, rfl⟩
      case measure => simp [intOf]; omega
    · have e : wid n = k := by rw [wid_neg m (by omega)] at he; omega
      have E := Lib.hid e
      clear e he
      go_wp2
      go_ret
      exact ⟨by rw [E.out]; rfl, rfl⟩
end Go.Proofs.Ytmmfkmkhflieeaa
