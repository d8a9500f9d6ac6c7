/- The reference of the layer runs: what it puts. -/
import Derived.Test.YtokhhnmnhjbnbaaRu
import Derived.Test.YtokhhnmnhjbnbaaPb
namespace Go.Proofs.Ytokhhnmnhjbnbaa
open Go.RowKit Go.Proofs.YtokhhnmnhjbnbaaW.PrintWords Go.Proofs.YtokhhnmnhjbnbaaW.PrintLast Go.Proofs.YtokhhnmnhjbnbaaW.PrintMore
attribute [local go_sem] max2_int min2_int max_two min_two max_three min_three max_four min_four
set_option linter.unusedSimpArgs false
set_option linter.unusedVariables false
theorem hPut01_2 {w0 W : World} {os : List Ob} {A : Option Addr} {n c : Nat} {l : List Bool} {v : Int} (H : Hold w0 W (bitO A n l :: os)) (hc : n ≤ c) (h0 : 0 ≤ v) (h1 : v < 4294967296) (h3 : l.length ≤ 100000000000) :
    Calls Try.prog 25 #[.slice A n c, .int .u32 v, .int .i64 2] W fun e w' => ∃ A1 c1, e = .returned (.slice A1 (n + 2) c1) ∧ n + 2 ≤ c1 ∧ Hold w0 w' (bitO A1 (n + 2) (l ++ bitsN v 2) :: os) :=
  hPut01 (j := 2) H hc h0 h1 (by omega) h3
theorem put14_no (v : Value) (x : Int) (w : World) (hx : ¬ (0 ≤ x ∧ x ≤ 255)) :
    Calls Try.prog 10 #[v, .int .i64 x] w fun e w' => e = .returned v ∧ w' = w := by
  by_cases c1 : x < 0
  · go_enter Try.func10, Try.ntmps10
    go_wp2
    go_ret
    exact ⟨rfl, rfl⟩
  · have c2 : 255 < x := by omega
    go_enter Try.func10, Try.ntmps10
    go_wp2
    go_ret
    exact ⟨rfl, rfl⟩
set_option maxHeartbeats 1000000 in
theorem hPut_q14 {w0 : World} {os : List Ob} : ∀ (m : Nat) (W : World) (A : Option Addr) (n c : Nat) (l : List Bool), m ≤ 255 → Hold w0 W (bitO A n l :: os) → n ≤ c → l.length + m ≤ 1000000000 →
    Calls Try.prog 10 #[.slice A n c, .int .i64 (m : Int)] W fun e w' => ∃ A1 c1, e = .returned (.slice A1 (n + (runBits m).length) c1) ∧ n + (runBits m).length ≤ c1 ∧ Hold w0 w' (bitO A1 (n + (runBits m).length) (l ++ runBits m) :: os) := by
  intro m
  induction m using Nat.strongRecOn with
  | _ m ih =>
  intro W A n c l hm H hc hl
  have H := Lib.hid H
  have HC := Lib.hid hc
  have c1 : ¬ ((m : Int) < 0) := by omega
  have c2 : ¬ (255 < (m : Int)) := by omega
  rcases Nat.lt_or_ge m 3 with h3 | h3
  · have c3 : ¬ (3 ≤ (m : Int)) := by omega
    have wv : (m : Int) % 4294967296 = (m : Int) := by omega
    have HP := Lib.hid (hPut01_2 (v := (m : Int)) H.out hc (by omega) (by omega) (by omega))
    rw [bitsN_small m h3] at HP
    have e : (runBits m).length = 2 := by rw [runBits_len]; omega
    rw [e]
    clear hc ih hl e
    generalize runBits m = R at *
    go_enter Try.func10, Try.ntmps10
    go_wp2_with (go_at_call 25; (with_reducible refine HP.out.mono ?_); rintro e w1 ⟨A1, c1, rfl, hle, h⟩; have HLE := Lib.hid hle; replace H := Lib.hid h; clear h hle)
    go_ret
    exact ⟨_, _, rfl, HLE.out, H.out⟩
  · obtain ⟨k, rfl⟩ : ∃ k, m = k + 3 := ⟨m - 3, by omega⟩
    have c3 : 3 ≤ ((k + 3 : Nat) : Int) := by omega
    have ws : IntKind.i64.wrap (((k + 3 : Nat) : Int) - 3) = (k : Int) := by rw [IntWalk.i64_in _ (by omega)]; omega
    have HP := Lib.hid (hPut01_2 (v := 3) H.out hc (by omega) (by omega) (by omega))
    rw [bitsN_three] at HP
    have IH := Lib.hid (fun W A c h hc => ih k (by omega) W A (n + 2) c (l ++ [true, true]) (by omega) h hc (by simp; omega))
    have e1 : n + 2 + (runBits k).length = n + (runBits (k + 3)).length := by simp [runBits]; omega
    have e2 : (l ++ [true, true]) ++ runBits k = l ++ runBits (k + 3) := by simp [runBits]
    rw [e1, e2] at IH
    generalize (runBits (k + 3)).length = R at *
    generalize runBits (k + 3) = R2 at *
    generalize l ++ [true, true] = l2 at *
    clear hc ih hl e1 e2
    go_enter Try.func10, Try.ntmps10
    go_wp2_with (first
      | (go_at_call 25; (with_reducible refine HP.out.mono ?_); rintro e w1 ⟨A1, c1, rfl, hle, h⟩; have HLE := Lib.hid hle; replace H := Lib.hid h; clear h hle)
      | (go_at_call 10; (with_reducible refine (IH.out _ _ _ H.out HLE.out).mono ?_); rintro e w1 ⟨A1, c1, rfl, hle, h⟩; clear HLE; have HLE := Lib.hid hle; replace H := Lib.hid h; clear h hle))
    go_ret
    exact ⟨_, _, rfl, HLE.out, H.out⟩
end Go.Proofs.Ytokhhnmnhjbnbaa
