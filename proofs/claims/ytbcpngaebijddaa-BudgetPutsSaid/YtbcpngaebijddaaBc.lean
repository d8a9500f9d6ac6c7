/- The reference of the layer budget: what it puts. -/
import Derived.Test.YtbcpngaebijddaaBv
import Derived.Test.YtbcpngaebijddaaPb
namespace Go.Proofs.Ytbcpngaebijddaa
open Go.RowKit Go.Proofs.YtbcpngaebijddaaW.PrintWords Go.Proofs.YtbcpngaebijddaaW.PrintLast Go.Proofs.YtbcpngaebijddaaW.PrintMore
attribute [local go_sem] max2_int min2_int max_two min_two max_three min_three max_four min_four
set_option linter.unusedSimpArgs false
set_option linter.unusedVariables false
set_option maxHeartbeats 400000 in
theorem can_yes (v left : Int) (w : World) (h : canB v left) :
    Calls Try.prog 10 #[.int .i64 v, .int .i64 left] w fun e w' => e = .returned (.bool true) ∧ w' = w := by
  obtain ⟨h1, h2, h3, h4⟩ := h
  go_enter Try.func10, Try.ntmps10
  go_wp2
  go_ret
  exact ⟨rfl, rfl⟩
set_option maxHeartbeats 400000 in
theorem can_no (v left : Int) (w : World) (h : ¬ canB v left) :
    Calls Try.prog 10 #[.int .i64 v, .int .i64 left] w fun e w' => e = .returned (.bool false) ∧ w' = w := by
  by_cases h1 : 1 ≤ left
  · by_cases h2 : left ≤ 4096
    · by_cases h3 : 0 ≤ v
      · have h4 : ¬ (v ≤ left) := fun h4 => h ⟨h1, h2, h3, h4⟩
        clear h
        go_enter Try.func10, Try.ntmps10
        go_wp2
        go_ret
        exact ⟨rfl, rfl⟩
      · clear h
        go_enter Try.func10, Try.ntmps10
        go_wp2
        go_ret
        exact ⟨rfl, rfl⟩
    · clear h
      go_enter Try.func10, Try.ntmps10
      go_wp2
      go_ret
      exact ⟨rfl, rfl⟩
  · clear h
    go_enter Try.func10, Try.ntmps10
    go_wp2
    go_ret
    exact ⟨rfl, rfl⟩
set_option maxHeartbeats 400000 in
theorem put13_no (u : Value) (v left : Int) (w : World) (h : ¬ canB v left) :
    Calls Try.prog 11 #[u, .int .i64 v, .int .i64 left] w fun e w' => e = .returned u ∧ w' = w := by
  have HC := Lib.hid (fun w => can_no v left w h)
  clear h
  go_enter Try.func11, Try.ntmps11
  go_wp2_with (go_at_call 10; (with_reducible refine (HC.out _).mono ?_); rintro e w1 ⟨rfl, rfl⟩)
  go_ret
  exact ⟨rfl, rfl⟩
set_option maxHeartbeats 1000000 in
theorem hPut_q13 {w0 W : World} {os : List Ob} {A : Option Addr} {n c : Nat} {l : List Bool} {v left : Int} (H : Hold w0 W (bitO A n l :: os)) (hc : n ≤ c) (hl : l.length ≤ 100000000000) (h : canB v left) :
    Calls Try.prog 11 #[.slice A n c, .int .i64 v, .int .i64 left] W fun e w' => ∃ A1 c1, e = .returned (.slice A1 (n + widN left) c1) ∧ n + widN left ≤ c1 ∧ Hold w0 w' (bitO A1 (n + widN left) (l ++ bitsN v (widN left)) :: os) := by
  have H := Lib.hid H
  have HC := Lib.hid (fun w => can_yes v left w h)
  obtain ⟨h1, h2, h3, h4⟩ := h
  obtain ⟨b1, b2, b3, _, _⟩ := widN_bd h1 h2
  have HWD := Lib.hid (fun w => (rwidth_any left w (by omega) (by omega)))
  rw [b1] at HWD
  have HP := Lib.hid (fun W (h : Hold w0 W (bitO A n l :: os)) => hPut01 (v := v) (j := widN left) h hc h3 (by omega) (by omega) hl)
  have wv : v % 4294967296 = v := by omega
  clear hl b1
  generalize widN left = K at *
  generalize l ++ bitsN v K = l2 at *
  go_enter Try.func11, Try.ntmps11
  go_wp2_with (first
    | (go_at_call 10; (with_reducible refine (HC.out _).mono ?_); rintro e w1 ⟨rfl, rfl⟩)
    | (go_at_call 28; (with_reducible refine (HWD.out _).mono ?_); rintro e w1 ⟨rfl, rfl⟩)
    | (go_at_call 27; (with_reducible refine (HP.out _ H.out).mono ?_); rintro e w1 ⟨A1, c1, rfl, hle, h⟩; have HLE := Lib.hid hle; replace H := Lib.hid h; clear h hle))
  go_ret
  exact ⟨_, _, rfl, HLE.out, H.out⟩
end Go.Proofs.Ytbcpngaebijddaa
