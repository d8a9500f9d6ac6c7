/- Contracts of the layer runs and of its reference: what is put, what is taken. Bits that are put by the reference (puncheonref01.Put): a row of bools, as an object. The reference of the layer runs: what it puts. What was put is taken: bits of bytes of bits. What was put is taken, with more bytes behind it. -/
import Derived.Test.YtmmfkmkhflieeaaHl
import Derived.Test.YtmmfkmkhflieeaaEv
import Derived.Test.YtmmfkmkhflieeaaPPrx5
namespace Go.Proofs.Ytmmfkmkhflieeaa
open Go.RowKit Go.Proofs.YtmmfkmkhflieeaaW.PrintWords Go.Proofs.YtmmfkmkhflieeaaW.PrintLast Go.Proofs.YtmmfkmkhflieeaaW.PrintMore
attribute [local go_sem] max2_int min2_int max_two min_two max_three min_three max_four min_four
set_option linter.unusedSimpArgs false
set_option linter.unusedVariables false
/-- the bits of a number -/
def runBits : Nat → List Bool
  | 0 => [false, false]
  | 1 => [true, false]
  | 2 => [false, true]
  | n + 3 => true :: true :: runBits n
theorem runBits_len : ∀ n, (runBits n).length = 2 * (n / 3 + 1)
  | 0 => rfl
  | 1 => rfl
  | 2 => rfl
  | n + 3 => by simp only [runBits, List.length_cons, runBits_len n]; omega
theorem bitsN_small (n : Nat) (h : n < 3) : bitsN (n : Int) 2 = runBits n := by
  have : n = 0 ∨ n = 1 ∨ n = 2 := by omega
  rcases this with rfl | rfl | rfl <;> decide
theorem bitsN_three : bitsN 3 2 = [true, true] := by decide
def costR (n : Int) : Int := if 0 ≤ n ∧ n ≤ 255 then 2 * (n / 3 + 1) else 0
theorem costR_runBits (n : Nat) (h : n ≤ 255) : costR (n : Int) = ((runBits n).length : Int) := by
  unfold costR; rw [if_pos ⟨by omega, by omega⟩, runBits_len]; omega
theorem costR_no (n : Int) (h : ¬ (0 ≤ n ∧ n ≤ 255)) : costR n = 0 := by unfold costR; rw [if_neg h]
set_option maxHeartbeats 400000 in
theorem costR_any (n : Int) (w : World) : Calls Try.prog 50 #[.int .i64 n] w fun e w' => e = .returned (.int .i64 (costR n)) ∧ w' = w := by
  by_cases c1 : n < 0
  · have e : costR n = 0 := costR_no n (by omega)
    rw [e]
    go_enter Try.func50, Try.ntmps50
    go_wp2
    go_ret
    exact ⟨rfl, rfl⟩
  · by_cases c2 : 255 < n
    · have e : costR n = 0 := costR_no n (by omega)
      rw [e]
      go_enter Try.func50, Try.ntmps50
      go_wp2
      go_ret
      exact ⟨rfl, rfl⟩
    · have e : costR n = 2 * (n / 3 + 1) := by unfold costR; rw [if_pos ⟨by omega, by omega⟩]
      rw [e]
      have q0 : n.tdiv 3 = n / 3 := Int.tdiv_eq_ediv_of_nonneg (by omega)
      obtain ⟨q, hq⟩ : ∃ q, n / 3 = q := ⟨_, rfl⟩
      have hq0 : 0 ≤ q := by omega
      have hq1 : q ≤ 85 := by omega
      rw [hq] at q0 ⊢
      have w1 : IntKind.i64.wrap q = q := IntWalk.i64_in _ (by omega)
      have w2 : IntKind.i64.wrap (q + 1) = q + 1 := IntWalk.i64_in _ (by omega)
      have w3 : IntKind.i64.wrap (2 * (q + 1)) = 2 * (q + 1) := IntWalk.i64_in _ (by omega)
      clear hq e
      go_enter Try.func50, Try.ntmps50
      go_wp2
      go_ret
      exact ⟨rfl, rfl⟩
section
variable {w0 W : World} {os : List Ob}
theorem hPut2_w {g : Nat} {bs : List Bool} {v : Int} (H : Hold w0 W (wrO g bs :: os)) (hm : bs.length ≤ 100000000000) (h0 : 0 ≤ v) (h1 : v ≤ 4294967295) :
    Calls Try.prog 49 #[.pointer (some ⟨g, 0, none⟩), .int .u32 v, .int .i64 2] W fun e w' => e = .returned (.bool true) ∧ Hold w0 w' (wrO g (bs ++ bitsN v 2) :: os) :=
  hPut_w (n := 2) H hm h0 h1 (by omega)
set_option maxHeartbeats 1000000 in
theorem hPut_ru {g : Nat} {bs : List Bool} (H : Hold w0 W (wrO g bs :: os)) (hm : bs.length ≤ 1000000000) (n : Nat) (hn : n ≤ 255) :
    Calls Try.prog 32 #[.pointer (some ⟨g, 0, none⟩), .int .i64 (n : Int)] W fun e w' => e = .returned (.bool true) ∧ Hold w0 w' (wrO g (bs ++ runBits n) :: os) := by
  have H := Lib.hid H
  have HC := Lib.hid (fun w => costR_any (n : Int) w)
  obtain ⟨N, hN⟩ : ∃ N : Nat, costR (n : Int) = ((N + 1 : Nat) : Int) := ⟨2 * (n / 3) + 1, by rw [costR_runBits n hn, runBits_len]; omega⟩
  rw [hN] at HC
  have hN1 : (((N + 1 : Nat) : Int) == 0) = false := beq_false_of_ne (by omega)
  have HL := Lib.hid (runBits_len n)
  clear hN
  generalize ((N + 1 : Nat) : Int) = M at *
  go_enter Try.func32, Try.ntmps32
  go_wp2_with (go_at_call 50; (with_reducible refine (HC.out _).mono ?_); rintro e w1 ⟨rfl, rfl⟩)
  go_loopg [1] n (fun k v wr => ∃ bs' : List Bool, v = .int .i64 (k : Int) ∧ k ≤ n ∧ Hid (bs' ++ runBits k = bs ++ runBits n) ∧ Hid (Hold w0 wr (wrO g bs' :: os)))
  case atStart => exact ⟨bs, rfl, Nat.le_refl _, Lib.hid rfl, H⟩
  case round =>
    obtain ⟨bs', rfl, hk, HE, H2⟩ := hrel
    clear H
    have H := H2
    clear H2
    have HB := Lib.hid (show bs'.length ≤ 100000000000 by
      have h1 := congrArg List.length HE.out
      rw [List.length_append, List.length_append, HL.out] at h1
      omega)
    rcases Nat.lt_or_ge gk 3 with c | c
    · have c1 : ¬ (3 ≤ (gk : Int)) := by omega
      have wv : (gk : Int) % 4294967296 = (gk : Int) := by omega
      have HP := Lib.hid (fun W (h : Hold w0 W (wrO g bs' :: os)) => hPut2_w (v := (gk : Int)) h HB.out (by omega) (by omega))
      rw [bitsN_small gk c, HE.out] at HP
      go_wp2_with (go_at_call 49; (with_reducible refine (HP.out _ H.out).mono ?_); rintro e w1 ⟨rfl, h⟩; replace H := Lib.hid h; clear h)
      go_ret
      exact ⟨rfl, H.out⟩
    · obtain ⟨i, rfl⟩ : ∃ i, gk = i + 3 := ⟨gk - 3, by omega⟩
      have c1 : 3 ≤ ((i + 3 : Nat) : Int) := by omega
      have HP := Lib.hid (fun W (h : Hold w0 W (wrO g bs' :: os)) => hPut2_w (v := 3) h HB.out (by omega) (by omega))
      rw [bitsN_three] at HP
      have HE2 := Lib.hid (show (bs' ++ [true, true]) ++ runBits i = bs ++ runBits n by rw [← HE.out]; simp [runBits])
      have ws : IntKind.i64.wrap (((i + 3 : Nat) : Int) - 3) = (i : Int) := by rw [IntWalk.i64_in _ (by omega)]; omega
      go_wp2_with (go_at_call 49; (with_reducible refine (HP.out _ H.out).mono ?_); rintro e w1 ⟨rfl, h⟩; replace H := Lib.hid h; clear h)
      go_roundg i
      case measure => omega
      case rel => exact ⟨_, rfl, by omega, HE2, H⟩
set_option maxHeartbeats 400000 in
theorem hPutN_ru {g : Nat} (H : Hold w0 W os) (n : Int) (hn : ¬ (0 ≤ n ∧ n ≤ 255)) :
    Calls Try.prog 32 #[.pointer (some ⟨g, 0, none⟩), .int .i64 n] W fun e w' => e = .returned (.bool false) ∧ w' = W := by
  have HC := Lib.hid (fun w => costR_any n w)
  rw [costR_no n hn] at HC
  go_enter Try.func32, Try.ntmps32
  go_wp2_with (go_at_call 50; (with_reducible refine (HC.out _).mono ?_); rintro e w1 ⟨rfl, rfl⟩)
  go_ret
  exact ⟨rfl, rfl⟩
end
/-! what is taken -/
def tkR (l : List Int) (most : Int) (n : Int) (t : Nat) : Int × Int × Nat :=
  if h : t + 2 ≤ 8 * l.length then
    if most < n + numAt l t 2 then (0, 13, t + 2)
    else if numAt l t 2 < 3 then (n + numAt l t 2, 0, t + 2)
    else tkR l most (n + numAt l t 2) (t + 2)
  else (0, 3, t)
termination_by 8 * l.length - t
def takeR (l : List Int) (most : Int) (t : Nat) : Int × Int × Nat := if 0 ≤ most ∧ most ≤ 255 then tkR l most 0 t else (0, 1, t)
theorem tkR_le (l : List Int) (most : Int) : ∀ (j : Nat) (n : Int) (t : Nat), 8 * l.length - t = j → t ≤ 8 * l.length → ∀ {v e : Int} {t' : Nat}, tkR l most n t = (v, e, t') → t' ≤ 8 * l.length := by
  intro j
  induction j using Nat.strongRecOn with
  | _ j ih =>
  intro n t hj ht v e t' h
  rw [tkR] at h
  by_cases hc : t + 2 ≤ 8 * l.length
  · rw [dif_pos hc] at h
    split at h
    · simp only [Prod.mk.injEq] at h; omega
    · split at h
      · simp only [Prod.mk.injEq] at h; omega
      · exact ih _ (by omega) _ _ rfl hc h
  · rw [dif_neg hc] at h
    simp only [Prod.mk.injEq] at h; omega
theorem takeR_le {l : List Int} {most : Int} {t : Nat} {v e : Int} {t' : Nat} (h : takeR l most t = (v, e, t')) (ht : t ≤ 8 * l.length) : t' ≤ 8 * l.length := by
  unfold takeR at h
  split at h
  · exact tkR_le l most _ _ _ rfl ht h
  · simp only [Prod.mk.injEq] at h; omega
theorem num2_bd (l : List Int) (t : Nat) : 0 ≤ numAt l t 2 ∧ numAt l t 2 < 4 := by
  have := numAt_bd l t 2
  rw [show pw 2 = 4 from by decide] at this
  exact this
section
variable {w0 W : World} {os : List Ob}
theorem hTakeN_r {g : Nat} {l : List Int} {t n : Nat} (H : Hold w0 W (rdO g l t :: os)) (ht : t ≤ 8 * l.length) (hm : l.length ≤ 140737488351232) (hn : n ≤ 24) (hs : 8 * l.length < t + n) :
    Calls Try.prog 67 #[.pointer (some ⟨g, 0, none⟩), .int .i64 (n : Int)] W fun e w' => e = .returned (.tuple #[.int .u32 0, .bool false]) ∧ Hold w0 w' (rdO g l t :: os) :=
  H.call1 fun F ⟨A, c, hI, hF⟩ => (btake_no g l t n W hI ht hm (.inr ⟨by omega, .inr ⟨by omega, by omega⟩⟩)).mono fun e w' ⟨h1, h2, h3⟩ => ⟨h1, by rw [hF]; exact rdO_turn h2 h3⟩
theorem hTake_q {g : Nat} {l : List Int} {t n : Nat} (H : Hold w0 W (qrO g (bitsOf l) t :: os)) (ht : t + n ≤ 8 * l.length) (hn : n ≤ 24) :
    Calls Try.prog 58 #[.pointer (some ⟨g, 0, none⟩), .int .i64 (n : Int)] W fun e w' => e = .returned (.tuple #[.int .u32 (numAt l t n), .bool true]) ∧ Hold w0 w' (qrO g (bitsOf l) (t + n) :: os) :=
  H.call1 fun F ⟨A, c, hI, hF⟩ => (qtake_ok g (bitsOf l) t n W hI (by rw [bitsOf_len]; exact ht) hn).mono fun e w' ⟨h1, h2, h3⟩ => ⟨h1, by rw [hF]; exact qrO_turn h2 h3⟩
theorem hTakeN_q {g : Nat} {l : List Int} {t n : Nat} (H : Hold w0 W (qrO g (bitsOf l) t :: os)) (ht : t ≤ 8 * l.length) (hn : n ≤ 24) (hs : 8 * l.length < t + n) :
    Calls Try.prog 58 #[.pointer (some ⟨g, 0, none⟩), .int .i64 (n : Int)] W fun e w' => e = .returned (.tuple #[.int .u32 0, .bool false]) ∧ Hold w0 w' (qrO g (bitsOf l) t :: os) :=
  H.call1 fun F ⟨A, c, hI, hF⟩ => (qtake_no g (bitsOf l) t n W hI (by rw [bitsOf_len]; exact ht) (.inr ⟨by omega, .inr ⟨by omega, by rw [bitsOf_len]; omega⟩⟩)).mono fun e w' ⟨h1, h2, h3⟩ => ⟨h1, by rw [hF]; exact qrO_turn h2 h3⟩
theorem hTake2_r {g : Nat} {l : List Int} {t : Nat} (H : Hold w0 W (rdO g l t :: os)) (ht : t + 2 ≤ 8 * l.length) (hm : l.length ≤ 140737488351232) (hok : ∀ x, x ∈ l → 0 ≤ x ∧ x ≤ 255) :
    Calls Try.prog 67 #[.pointer (some ⟨g, 0, none⟩), .int .i64 2] W fun e w' => e = .returned (.tuple #[.int .u32 (numAt l t 2), .bool true]) ∧ Hold w0 w' (rdO g l (t + 2) :: os) :=
  hTake_r (n := 2) H ht (by omega) hm hok
theorem hTakeN2_r {g : Nat} {l : List Int} {t : Nat} (H : Hold w0 W (rdO g l t :: os)) (ht : t ≤ 8 * l.length) (hm : l.length ≤ 140737488351232) (hs : 8 * l.length < t + 2) :
    Calls Try.prog 67 #[.pointer (some ⟨g, 0, none⟩), .int .i64 2] W fun e w' => e = .returned (.tuple #[.int .u32 0, .bool false]) ∧ Hold w0 w' (rdO g l t :: os) :=
  hTakeN_r (n := 2) H ht hm (by omega) hs
theorem hTake2_q {g : Nat} {l : List Int} {t : Nat} (H : Hold w0 W (qrO g (bitsOf l) t :: os)) (ht : t + 2 ≤ 8 * l.length) :
    Calls Try.prog 58 #[.pointer (some ⟨g, 0, none⟩), .int .i64 2] W fun e w' => e = .returned (.tuple #[.int .u32 (numAt l t 2), .bool true]) ∧ Hold w0 w' (qrO g (bitsOf l) (t + 2) :: os) :=
  hTake_q (n := 2) H ht (by omega)
theorem hTakeN2_q {g : Nat} {l : List Int} {t : Nat} (H : Hold w0 W (qrO g (bitsOf l) t :: os)) (ht : t ≤ 8 * l.length) (hs : 8 * l.length < t + 2) :
    Calls Try.prog 58 #[.pointer (some ⟨g, 0, none⟩), .int .i64 2] W fun e w' => e = .returned (.tuple #[.int .u32 0, .bool false]) ∧ Hold w0 w' (qrO g (bitsOf l) t :: os) :=
  hTakeN_q (n := 2) H ht (by omega) hs
set_option maxHeartbeats 2000000 in
theorem hTake_qru {g : Nat} {l : List Int} {t : Nat} {most : Int} (H : Hold w0 W (qrO g (bitsOf l) t :: os)) (ht : t ≤ 8 * l.length) (hm : l.length ≤ 1000000000) {v e : Int} {t' : Nat} (hb : takeR l most t = (v, e, t')) :
    Calls Try.prog 40 #[.pointer (some ⟨g, 0, none⟩), .int .i64 most] W fun r w' => r = .returned (.tuple #[.int .i64 v, .int .i64 e]) ∧ Hold w0 w' (qrO g (bitsOf l) t' :: os) := by
  have H := Lib.hid H
  unfold takeR at hb
  by_cases hr : 0 ≤ most ∧ most ≤ 255
  · rw [if_pos hr] at hb
    have c1 : ¬ (most < 0) := by omega
    have c2 : ¬ (255 < most) := by omega
    have HK := Lib.hid hb
    have HT := Lib.hid ht
    have HR := Lib.hid hr
    clear hb ht hr
    go_enter Try.func40, Try.ntmps40
    go_wp2
    go_loopg [6] (8 * l.length - t) (fun k u wr => ∃ (n : Int) (s : Nat), u = .int .i64 n ∧ s ≤ 8 * l.length ∧ k = 8 * l.length - s ∧ 0 ≤ n ∧ n ≤ 255 ∧ Hid (tkR l most n s = (v, e, t')) ∧ Hid (Hold w0 wr (qrO g (bitsOf l) s :: os)))
    case atStart => exact ⟨0, t, rfl, HT.out, rfl, by omega, by omega, HK, H⟩
    case round =>
      obtain ⟨n, s, rfl, hs, hk, hn0, hn1, HQ, H2⟩ := hrel
      clear H HK
      have H := H2
      clear H2
      have HKM := Lib.hid hk
      have hb := HQ.out
      rw [tkR] at hb
      by_cases hc : s + 2 ≤ 8 * l.length
      · rw [dif_pos hc] at hb
        have hx := num2_bd l s
        have HTK := Lib.hid (fun W (h : Hold w0 W (qrO g (bitsOf l) s :: os)) => hTake2_q h hc)
        generalize numAt l s 2 = x at *
        have wc : IntKind.i64.wrap x = x := IntWalk.i64_in _ (by omega)
        have ws : IntKind.i64.wrap (n + x) = n + x := IntWalk.i64_in _ (by omega)
        by_cases hm1 : most < n + x
        · rw [if_pos hm1] at hb
          simp only [Prod.mk.injEq] at hb
          obtain ⟨rfl, rfl, rfl⟩ := hb
          go_wp2_with (go_at_call 58; (with_reducible refine (HTK.out _ H.out).mono ?_); rintro e w1 ⟨rfl, h⟩; replace H := Lib.hid h; clear h)
          go_ret2
          exact ⟨rfl, H.out⟩
        · rw [if_neg hm1] at hb
          by_cases hx3 : x < 3
          · rw [if_pos hx3] at hb
            simp only [Prod.mk.injEq] at hb
            obtain ⟨rfl, rfl, rfl⟩ := hb
            go_wp2_with (go_at_call 58; (with_reducible refine (HTK.out _ H.out).mono ?_); rintro e w1 ⟨rfl, h⟩; replace H := Lib.hid h; clear h)
            go_ret2
            exact ⟨rfl, H.out⟩
          · rw [if_neg hx3] at hb
            have HB2 := Lib.hid hb
            clear hb HQ
            have hle : n + x ≤ 255 := by have := HR.out; omega
            go_wp2_with (go_at_call 58; (with_reducible refine (HTK.out _ H.out).mono ?_); rintro e w1 ⟨rfl, h⟩; replace H := Lib.hid h; clear h)
            go_roundg (8 * l.length - (s + 2))
            case measure => have := HKM.out; omega
            case rel => exact ⟨n + x, s + 2, rfl, hc, rfl, by omega, hle, HB2, H⟩
      · rw [dif_neg hc] at hb
        simp only [Prod.mk.injEq] at hb
        obtain ⟨rfl, rfl, rfl⟩ := hb
        have HTK := Lib.hid (fun W (h : Hold w0 W (qrO g (bitsOf l) s :: os)) => hTakeN2_q h hs (by omega))
        go_wp2_with (go_at_call 58; (with_reducible refine (HTK.out _ H.out).mono ?_); rintro e w1 ⟨rfl, h⟩; replace H := Lib.hid h; clear h)
        go_ret2
        exact ⟨rfl, H.out⟩
  · rw [if_neg hr] at hb
    simp only [Prod.mk.injEq] at hb
    obtain ⟨rfl, rfl, rfl⟩ := hb
    by_cases c1 : most < 0
    · go_enter Try.func40, Try.ntmps40
      go_wp2
      go_ret2
      exact ⟨rfl, H.out⟩
    · have c2 : 255 < most := by omega
      go_enter Try.func40, Try.ntmps40
      go_wp2
      go_ret2
      exact ⟨rfl, H.out⟩
set_option maxHeartbeats 4000000 in
theorem hTake_ru {g : Nat} {l : List Int} {t : Nat} {most : Int} (H : Hold w0 W (rdO g l t :: os)) (ht : t ≤ 8 * l.length) (hm : l.length ≤ 1000000000) (hok : ∀ x, x ∈ l → 0 ≤ x ∧ x ≤ 255) {v e : Int} {t' : Nat} (hb : takeR l most t = (v, e, t')) :
    Calls Try.prog 57 #[.pointer (some ⟨g, 0, none⟩), .int .i64 most] W fun r w' => r = .returned (.tuple #[.int .i64 v, .int .i64 e]) ∧ Hold w0 w' (rdO g l t' :: os) := by
  have H := Lib.hid H
  have HOK := Lib.hid hok
  clear hok
  unfold takeR at hb
  by_cases hr : 0 ≤ most ∧ most ≤ 255
  · rw [if_pos hr] at hb
    have c1 : ¬ (most < 0) := by omega
    have c2 : ¬ (255 < most) := by omega
    have HK := Lib.hid hb
    have HT := Lib.hid ht
    have HR := Lib.hid hr
    clear hb ht hr
    go_enter Try.func57, Try.ntmps57
    go_wp2
    go_loopg [6, 7] (8 * l.length - t + 1) (fun k u b wr => ∃ (n : Int) (s : Nat) (last : Bool), u = .int .i64 n ∧ b = .bool last ∧ s ≤ 8 * l.length ∧ 0 ≤ n ∧ n ≤ 255 ∧ Hid ((last = false ∧ k = 8 * l.length - s + 1 ∧ tkR l most n s = (v, e, t')) ∨ (last = true ∧ (n, (0 : Int), s) = (v, e, t'))) ∧ Hid (Hold w0 wr (rdO g l s :: os)))
    case atStart => exact ⟨0, t, false, rfl, rfl, HT.out, by omega, by omega, Lib.hid (.inl ⟨rfl, rfl, HK.out⟩), H⟩
    case round =>
      obtain ⟨n, s, last, rfl, rfl, hs, hn0, hn1, HQ, H2⟩ := hrel
      clear H HK
      have H := H2
      clear H2
      rcases HQ.out with ⟨rfl, hk, hb⟩ | ⟨rfl, hb⟩
      · have HKM := Lib.hid hk
        clear HQ hk
        rw [tkR] at hb
        by_cases hc : s + 2 ≤ 8 * l.length
        · rw [dif_pos hc] at hb
          have hx := num2_bd l s
          have HTK := Lib.hid (fun W (h : Hold w0 W (rdO g l s :: os)) => hTake2_r h hc (by omega) HOK.out)
          generalize numAt l s 2 = x at *
          have wc : IntKind.i64.wrap x = x := IntWalk.i64_in _ (by omega)
          have ws : IntKind.i64.wrap (n + x) = n + x := IntWalk.i64_in _ (by omega)
          obtain ⟨m, hm2⟩ : ∃ m, n + x = m := ⟨_, rfl⟩
          rw [hm2] at hb ws
          by_cases hm1 : most < m
          · rw [if_pos hm1] at hb
            simp only [Prod.mk.injEq] at hb
            obtain ⟨rfl, rfl, rfl⟩ := hb
            have hx4 : x = 0 ∨ x = 1 ∨ x = 2 ∨ x = 3 := by omega
            rcases hx4 with rfl | rfl | rfl | rfl
            all_goals go_wp2_with (go_at_call 67; (with_reducible refine (HTK.out _ H.out).mono ?_); rintro e w1 ⟨rfl, h⟩; replace H := Lib.hid h; clear h)
            all_goals go_ret2
            all_goals exact ⟨rfl, H.out⟩
          · rw [if_neg hm1] at hb
            have hle : m ≤ 255 := by have := HR.out; omega
            by_cases hx3 : x < 3
            · rw [if_pos hx3] at hb
              have HB2 := Lib.hid hb
              clear hb
              have hx4 : x = 0 ∨ x = 1 ∨ x = 2 := by omega
              rcases hx4 with rfl | rfl | rfl
              all_goals go_wp2_with (go_at_call 67; (with_reducible refine (HTK.out _ H.out).mono ?_); rintro e w1 ⟨rfl, h⟩; replace H := Lib.hid h; clear h)
              all_goals go_roundg 0
              all_goals first
                | (have := HKM.out; omega)
                | exact ⟨m, s + 2, true, rfl, rfl, hc, by omega, hle, Lib.hid (.inr ⟨rfl, HB2.out⟩), H⟩
            · rw [if_neg hx3] at hb
              have HB2 := Lib.hid hb
              clear hb
              obtain rfl : x = 3 := by omega
              go_wp2_with (go_at_call 67; (with_reducible refine (HTK.out _ H.out).mono ?_); rintro e w1 ⟨rfl, h⟩; replace H := Lib.hid h; clear h)
              go_roundg (8 * l.length - (s + 2) + 1)
              case measure => have := HKM.out; omega
              case rel => exact ⟨m, s + 2, false, rfl, rfl, hc, by omega, hle, Lib.hid (.inl ⟨rfl, rfl, HB2.out⟩), H⟩
        · rw [dif_neg hc] at hb
          simp only [Prod.mk.injEq] at hb
          obtain ⟨rfl, rfl, rfl⟩ := hb
          have HTK := Lib.hid (fun W (h : Hold w0 W (rdO g l s :: os)) => hTakeN2_r h hs (by omega) (by omega))
          go_wp2_with (go_at_call 67; (with_reducible refine (HTK.out _ H.out).mono ?_); rintro e w1 ⟨rfl, h⟩; replace H := Lib.hid h; clear h)
          go_ret2
          exact ⟨rfl, H.out⟩
      · simp only [Prod.mk.injEq] at hb
        obtain ⟨rfl, rfl, rfl⟩ := hb
        go_wp2
        go_ret2
        exact ⟨rfl, H.out⟩
  · rw [if_neg hr] at hb
    simp only [Prod.mk.injEq] at hb
    obtain ⟨rfl, rfl, rfl⟩ := hb
    by_cases c1 : most < 0
    · go_enter Try.func57, Try.ntmps57
      go_wp2
      go_ret2
      exact ⟨rfl, H.out⟩
    · have c2 : 255 < most := by omega
      go_enter Try.func57, Try.ntmps57
      go_wp2
      go_ret2
      exact ⟨rfl, H.out⟩
end
end Go.Proofs.Ytmmfkmkhflieeaa
namespace Go.Proofs.Ytmmfkmkhflieeaa
open Go.RowKit Go.Proofs.YtmmfkmkhflieeaaW.PrintWords Go.Proofs.YtmmfkmkhflieeaaW.PrintLast Go.Proofs.YtmmfkmkhflieeaaW.PrintMore PPr
set_option linter.unusedSimpArgs false
set_option linter.unusedVariables false
theorem bitsN_cons (v : Int) (j : Nat) : bitsN v (j + 1) = decide (v % 2 = 1) :: bitsN (v / 2) j := by
  unfold bitsN
  rw [List.range_succ_eq_map, List.map_cons, List.map_map]
  congr 1
  · simp
  · apply List.map_congr_left
    intro i _
    simp only [Function.comp]
    rw [Int.pow_succ, Int.mul_comm, ← Int.ediv_ediv_of_nonneg (by omega)]
theorem put01_l0 (n : Int) (hn : n ≤ 64) : ∀ (j : Nat) (v : Int) (l : List Bool) (i : Int), 0 ≤ v → v < 4294967296 → n = i + j → 0 ≤ i → l.length + j ≤ 1000000000000 → puncheonref01_Put.l0 (j + 1) v n l i = some (l ++ bitsN v j)
  | 0, v, l, i, h0, h1, h2, h3, h4 => by
    rw [puncheonref01_Put.l0, if_neg (by omega)]; simp [bitsN]
  | j + 1, v, l, i, h0, h1, h2, h3, h4 => by
    rw [puncheonref01_Put.l0, if_pos (by omega), if_pos (by omega)]
    have e1 : wrap64 (i + 1) = i + 1 := by unfold wrap64; omega
    have e2 : (Int.tdiv v 2) % 4294967296 = v / 2 := by rw [Int.tdiv_eq_ediv_of_nonneg h0]; omega
    have e3 : (Int.tmod v 2 == 1) = decide (v % 2 = 1) := by rw [Int.tmod_eq_emod_of_nonneg h0]; rfl
    rw [e1, e2, e3, put01_l0 n hn j (v / 2) _ (i + 1) (by omega) (by omega) (by omega) (by omega) (by rw [List.length_append]; simp; omega), bitsN_cons, List.append_assoc]
    rfl
theorem put01_f (l : List Bool) (v : Int) (j : Nat) (h0 : 0 ≤ v) (h1 : v < 4294967296) (h2 : j ≤ 64) (h3 : l.length ≤ 100000000000) : puncheonref01_Put.f (j + 1) l v (j : Int) = some (l ++ bitsN v j) := by
  unfold puncheonref01_Put.f
  rw [Option.bind_some, if_pos (by simp; omega), List.nil_append, put01_l0 (j : Int) (by omega) j v l 0 h0 h1 (by omega) (by omega) (by omega)]
theorem readsB_C {w : World} {A : Option Addr} {n : Nat} {l : List Bool} (h : ReadsB w A n l) : Kd.C Kd.bool w A n l := by
  refine ⟨h.1, h.2.1, fun hn => ?_⟩
  obtain ⟨ad, e, hc⟩ := h.2.2 hn
  refine ⟨ad, e, fun j p hp => ⟨[.bool p], rfl, rfl, fun i u hu => ?_⟩⟩
  have hj : j < n := by have := (List.getElem?_eq_some_iff.1 hp).1; have := h.1; omega
  have hi : i = 0 := by
    rcases i with _ | i
    · rfl
    · simp at hu
  subst hi
  simp at hu
  subst hu
  have := hc j hj
  rw [List.getD_eq_getElem?_getD, hp] at this
  rw [show j * Kd.bool.sz + 0 = j from Nat.mul_one j]
  exact this
theorem readsB_of_C {w : World} {A : Option Addr} {n : Nat} {l : List Bool} (h : Kd.C Kd.bool w A n l) : ReadsB w A n l := by
  refine ⟨h.1, h.2.1, fun hn => ?_⟩
  obtain ⟨ad, e, _⟩ := Kd.at_bool h 0 (by omega) (by omega)
  refine ⟨ad, e, fun j hj => ?_⟩
  obtain ⟨ad', e', hc⟩ := Kd.at_bool h (j : Int) (by omega) (by omega)
  rw [e] at e'
  cases e'
  rw [Int.toNat_natCast] at hc
  rw [hc]
  simp only [rdOf, Int.toNat_natCast]
theorem put01_any (A : Option Addr) (n c : Nat) (l : List Bool) (v : Int) (j : Nat) (w : World) (hr : ReadsB w A n l) (hc : n ≤ c) (h0 : 0 ≤ v) (h1 : v < 4294967296) (h2 : j ≤ 64) (h3 : l.length ≤ 100000000000) :
    Calls Try.prog 52 #[.slice A n c, .int .u32 v, .int .i64 (j : Int)] w fun e w' => ∃ A1 c1, e = .returned (.slice A1 (n + j) c1) ∧ n + j ≤ c1 ∧ ReadsB w' A1 (n + j) (l ++ bitsN v j) ∧ (∀ ad, A1 = some ad → w.heap.size ≤ ad.block) ∧ Below w.heap.size w w' := by
  obtain rfl := hr.1
  refine (puncheonref01_Put.calls (j + 1) A c l v (j : Int) _ w (readsB_C hr) hc (put01_f l v j h0 h1 h2 h3)).mono ?_
  rintro e w' ⟨v0, rfl, hR, hb⟩
  obtain ⟨A1, c1, rfl⟩ := Kd.R_slice hR
  have hB := Kd.R_base hR
  obtain ⟨_, hle, hC⟩ := Kd.R_reads' hR
  have hl : (l ++ bitsN v j).length = l.length + j := by rw [List.length_append, bitsN_len]
  rw [hl] at hle hC ⊢
  refine ⟨A1, c1, rfl, hle, readsB_of_C hC, ?_, hb⟩
  rintro ad rfl
  exact hB ad.block rfl
/-- a row of bools that reads, as an object -/
def bitO (A : Option Addr) (n : Nat) (l : List Bool) : Ob where
  P W F := ReadsB W A n l ∧ F = rowF A n
  loc := by
    rintro W W' F ⟨h, rfl⟩ hk
    exact ⟨readsOf_loc h hk, rfl⟩
  lt := by
    rintro W F ⟨h, rfl⟩ k hk
    exact readsOf_lt h k hk
theorem bitO_nil (W : World) : (bitO none 0 []).P W (rowF none 0) := ⟨⟨rfl, by omega, fun h => by omega⟩, rfl⟩
section
variable {w0 W : World} {os : List Ob}
theorem Hold.nilB (H : Hold w0 W os) : Hold w0 W (bitO none 0 [] :: os) := H.new (Below.refl _ _) (bitO_nil W) (fun k hk => by obtain ⟨h, _⟩ := hk; omega)
theorem Hold.rowB {A : Option Addr} {n : Nat} {l : List Bool} (H : Hold w0 W (bitO A n l :: os)) : ReadsB W A n l := by
  obtain ⟨F, h⟩ := H.head
  exact h.1
theorem hPut01 {A : Option Addr} {n c : Nat} {l : List Bool} {v : Int} {j : Nat} (H : Hold w0 W (bitO A n l :: os)) (hc : n ≤ c) (h0 : 0 ≤ v) (h1 : v < 4294967296) (h2 : j ≤ 64) (h3 : l.length ≤ 100000000000) :
    Calls Try.prog 52 #[.slice A n c, .int .u32 v, .int .i64 (j : Int)] W fun e w' => ∃ A1 c1, e = .returned (.slice A1 (n + j) c1) ∧ n + j ≤ c1 ∧ Hold w0 w' (bitO A1 (n + j) (l ++ bitsN v j) :: os) := by
  refine (put01_any A n c l v j W H.rowB hc h0 h1 h2 h3).mono ?_
  rintro e w' ⟨A1, c1, rfl, hle, hr, hA, hb⟩
  exact ⟨A1, c1, rfl, hle, H.drop.new hb ⟨hr, rfl⟩ (fun k ⟨_, ad, e, h⟩ => by rw [h]; exact hA ad e)⟩
end
end Go.Proofs.Ytmmfkmkhflieeaa
namespace Go.Proofs.Ytmmfkmkhflieeaa
open Go.RowKit Go.Proofs.YtmmfkmkhflieeaaW.PrintWords Go.Proofs.YtmmfkmkhflieeaaW.PrintLast Go.Proofs.YtmmfkmkhflieeaaW.PrintMore
attribute [local go_sem] max2_int min2_int max_two min_two max_three min_three max_four min_four
set_option linter.unusedSimpArgs false
set_option linter.unusedVariables false
theorem hPut01_2 {w0 W : World} {os : List Ob} {A : Option Addr} {n c : Nat} {l : List Bool} {v : Int} (H : Hold w0 W (bitO A n l :: os)) (hc : n ≤ c) (h0 : 0 ≤ v) (h1 : v < 4294967296) (h3 : l.length ≤ 100000000000) :
    Calls Try.prog 52 #[.slice A n c, .int .u32 v, .int .i64 2] W fun e w' => ∃ A1 c1, e = .returned (.slice A1 (n + 2) c1) ∧ n + 2 ≤ c1 ∧ Hold w0 w' (bitO A1 (n + 2) (l ++ bitsN v 2) :: os) :=
  hPut01 (j := 2) H hc h0 h1 (by omega) h3
theorem put14_no (v : Value) (x : Int) (w : World) (hx : ¬ (0 ≤ x ∧ x ≤ 255)) :
    Calls Try.prog 35 #[v, .int .i64 x] w fun e w' => e = .returned v ∧ w' = w := by
  by_cases c1 : x < 0
  · go_enter Try.func35, Try.ntmps35
    go_wp2
    go_ret
    exact ⟨rfl, rfl⟩
  · have c2 : 255 < x := by omega
    go_enter Try.func35, Try.ntmps35
    go_wp2
    go_ret
    exact ⟨rfl, rfl⟩
set_option maxHeartbeats 1000000 in
theorem hPut_q14 {w0 : World} {os : List Ob} : ∀ (m : Nat) (W : World) (A : Option Addr) (n c : Nat) (l : List Bool), m ≤ 255 → Hold w0 W (bitO A n l :: os) → n ≤ c → l.length + m ≤ 1000000000 →
    Calls Try.prog 35 #[.slice A n c, .int .i64 (m : Int)] W fun e w' => ∃ A1 c1, e = .returned (.slice A1 (n + (runBits m).length) c1) ∧ n + (runBits m).length ≤ c1 ∧ Hold w0 w' (bitO A1 (n + (runBits m).length) (l ++ runBits m) :: os) := by
  intro m
  induction m using Nat.strongRecOn with
  | _ m ih =>
  intro W A n c l hm H hc hl
  have H := Lib.hid H
  have HC := Lib.hid hc
  have c1 : ¬ ((m : Int) < 0) := by omega
  have c2 : ¬ (255 < (m : Int)) := by omega
  rcases Nat.lt_or_ge m 3 with h3 | h3
  · have c3 : ¬ (3 ≤ (m : Int)) := by omega
    have wv : (m : Int) % 4294967296 = (m : Int) := by omega
    have HP := Lib.hid (hPut01_2 (v := (m : Int)) H.out hc (by omega) (by omega) (by omega))
    rw [bitsN_small m h3] at HP
    have e : (runBits m).length = 2 := by rw [runBits_len]; omega
    rw [e]
    clear hc ih hl e
    generalize runBits m = R at *
    go_enter Try.func35, Try.ntmps35
    go_wp2_with (go_at_call 52; (with_reducible refine HP.out.mono ?_); rintro e w1 ⟨A1, c1, rfl, hle, h⟩; have HLE := Lib.hid hle; replace H := Lib.hid h; clear h hle)
    go_ret
    exact ⟨_, _, rfl, HLE.out, H.out⟩
  · obtain ⟨k, rfl⟩ : ∃ k, m = k + 3 := ⟨m - 3, by omega⟩
    have c3 : 3 ≤ ((k + 3 : Nat) : Int) := by omega
    have ws : IntKind.i64.wrap (((k + 3 : Nat) : Int) - 3) = (k : Int) := by rw [IntWalk.i64_in _ (by omega)]; omega
    have HP := Lib.hid (hPut01_2 (v := 3) H.out hc (by omega) (by omega) (by omega))
    rw [bitsN_three] at HP
    have IH := Lib.hid (fun W A c h hc => ih k (by omega) W A (n + 2) c (l ++ [true, true]) (by omega) h hc (by simp; omega))
    have e1 : n + 2 + (runBits k).length = n + (runBits (k + 3)).length := by simp [runBits]; omega
    have e2 : (l ++ [true, true]) ++ runBits k = l ++ runBits (k + 3) := by simp [runBits]
    rw [e1, e2] at IH
    generalize (runBits (k + 3)).length = R at *
    generalize runBits (k + 3) = R2 at *
    generalize l ++ [true, true] = l2 at *
    clear hc ih hl e1 e2
    go_enter Try.func35, Try.ntmps35
    go_wp2_with (first
      | (go_at_call 52; (with_reducible refine HP.out.mono ?_); rintro e w1 ⟨A1, c1, rfl, hle, h⟩; have HLE := Lib.hid hle; replace H := Lib.hid h; clear h hle)
      | (go_at_call 35; (with_reducible refine (IH.out _ _ _ H.out HLE.out).mono ?_); rintro e w1 ⟨A1, c1, rfl, hle, h⟩; clear HLE; have HLE := Lib.hid hle; replace H := Lib.hid h; clear h hle))
    go_ret
    exact ⟨_, _, rfl, HLE.out, H.out⟩
end Go.Proofs.Ytmmfkmkhflieeaa
namespace Go.Proofs.Ytmmfkmkhflieeaa
open Go.RowKit Go.Proofs.YtmmfkmkhflieeaaW.PrintWords Go.Proofs.YtmmfkmkhflieeaaW.PrintLast Go.Proofs.YtmmfkmkhflieeaaW.PrintMore
set_option linter.unusedSimpArgs false
set_option linter.unusedVariables false
/-- the bits of the bytes of bits: those bits, and zeros -/
theorem bits_bytes (bs : List Bool) : (bitsOf (bytesOf' bs)).take bs.length = bs := by
  apply List.ext_getElem
  · rw [List.length_take, bitsOf_len, bytesOf'_len]; omega
  · intro i h1 h2
    have hi : i < 8 * (bytesOf' bs).length := by rw [bytesOf'_len]; omega
    have h := bitsOf_get (bytesOf' bs) i hi
    rw [List.getElem_take]
    rw [List.getElem?_eq_getElem (by rw [bitsOf_len]; exact hi)] at h
    rw [Option.some.inj h]
    unfold bitAt
    rw [bytesOf'_get _ _ (by omega), pow_pw]
    have e := numOf_div (i % 8) ((bs.drop (8 * (i / 8))).take 8)
    rw [pow_pw] at e
    rw [e, List.drop_take, List.drop_drop, show 8 * (i / 8) + i % 8 = i by omega]
    obtain ⟨k, hk⟩ : ∃ k, 8 - i % 8 = k + 1 := ⟨7 - i % 8, by omega⟩
    rw [hk, List.drop_eq_getElem_cons h2, List.take_succ_cons, numOf]
    cases bs[i] <;> simp <;> omega
theorem drop_bytes (bs : List Bool) (t : Nat) (c : List Bool) (h : ∃ r, bs.drop t = c ++ r) (ht : t ≤ bs.length) : ((bitsOf (bytesOf' bs)).drop t).take c.length = c := by
  obtain ⟨r, h⟩ := h
  have hl : t + c.length ≤ bs.length := by
    have := congrArg List.length h
    rw [List.length_drop, List.length_append] at this; omega
  have e : ((bitsOf (bytesOf' bs)).drop t).take c.length = (((bitsOf (bytesOf' bs)).take bs.length).drop t).take c.length := by
    rw [List.drop_take, List.take_take, Nat.min_eq_left (by omega)]
  rw [e, bits_bytes, h, List.take_left]
theorem pad_bytes (bs : List Bool) : padOk (bytesOf' bs) bs.length = true := by
  unfold padOk
  by_cases h : bs.length % 8 = 0
  · simp [h]
  · rw [Bool.or_eq_true, decide_eq_true_iff, decide_eq_true_iff]
    right
    rw [bytesOf'_get _ _ (by omega), pow_pw]
    have e := numOf_div (bs.length % 8) ((bs.drop (8 * (bs.length / 8))).take 8)
    rw [pow_pw] at e
    rw [e, List.drop_take, List.drop_drop, List.drop_eq_nil_of_le (by omega)]
    simp [numOf]
/-- a number's bits are the number -/
theorem numOf_bitsN : ∀ (n : Nat) (v : Int), 0 ≤ v → v < pw n → numOf (bitsN v n) = v
  | 0, v, h0, h1 => by rw [pw_0] at h1; rw [show v = 0 by omega]; rfl
  | n + 1, v, h0, h1 => by
    rw [pw_succ] at h1
    rw [bitsN_cons, numOf, numOf_bitsN n (v / 2) (by omega) (by omega)]
    by_cases h : v % 2 = 1
    · rw [decide_eq_true h]; simp; omega
    · rw [decide_eq_false h]; simp; omega
theorem numAt_put (bs : List Bool) (t : Nat) (v : Int) (n : Nat) (r : List Bool) (ht : t ≤ bs.length) (h0 : 0 ≤ v) (h1 : v < pw n) (hd : bs.drop t = bitsN v n ++ r) : numAt (bytesOf' bs) t n = v ∧ t + n ≤ bs.length := by
  have h := drop_bytes bs t (bitsN v n) ⟨r, hd⟩ ht
  rw [bitsN_len] at h
  refine ⟨by unfold numAt; rw [h]; exact numOf_bitsN n v h0 h1, ?_⟩
  have := congrArg List.length hd
  rw [List.length_drop, List.length_append, bitsN_len] at this; omega
theorem butk_put (bs : List Bool) (t : Nat) (v left : Int) (r : List Bool) (ht : t ≤ bs.length) (hc : canB v left) (hd : bs.drop t = bitsN v (widN left) ++ r) : butk (8 * (bytesOf' bs).length) t (numAt (bytesOf' bs) t (widN left)) left = (v, 0, t + widN left) := by
  obtain ⟨h1, h2, h3, h4⟩ := hc
  obtain ⟨_, _, b3, b4, _⟩ := widN_bd h1 h2
  obtain ⟨e, hl⟩ := numAt_put bs t v (widN left) r ht h3 (by have : p2 (widN left) = pw (widN left) := rfl; omega) hd
  unfold butk
  rw [if_pos ⟨h1, h2⟩, if_pos (by rw [bytesOf'_len]; omega), e, if_pos h4]
end Go.Proofs.Ytmmfkmkhflieeaa
namespace Go.Proofs.Ytmmfkmkhflieeaa
open Go.RowKit Go.Proofs.YtmmfkmkhflieeaaW.PrintWords Go.Proofs.YtmmfkmkhflieeaaW.PrintLast Go.Proofs.YtmmfkmkhflieeaaW.PrintMore
set_option linter.unusedSimpArgs false
set_option linter.unusedVariables false
/-! what is taken of bytes, with more behind them -/
theorem numOf_bitsN_mod : ∀ (n : Nat) (v : Int), 0 ≤ v → numOf (bitsN v n) = v % pw n
  | 0, v, h0 => by rw [pw_0, Int.emod_one]; rfl
  | n + 1, v, h0 => by
    have hp := pw_pos n
    rw [bitsN_cons, numOf, numOf_bitsN_mod n (v / 2) (by omega), pw_succ]
    have a1 := Int.mul_ediv_add_emod (v / 2) (pw n)
    have b0 := Int.emod_nonneg (v / 2) (show pw n ≠ 0 by omega)
    have b1 := Int.emod_lt_of_pos (v / 2) (show 0 < pw n by omega)
    have e : v = ((v / 2) % pw n * 2 + v % 2) + 2 * pw n * (v / 2 / pw n) := by
      rw [Int.mul_assoc]; omega
    have e2 : v % (2 * pw n) = (v / 2) % pw n * 2 + v % 2 := by
      have h1 := Int.emod_eq_of_lt (a := (v / 2) % pw n * 2 + v % 2) (b := 2 * pw n) (by omega) (by omega)
      rw [← h1]
      conv => lhs; rw [e]
      rw [Int.add_mul_emod_self_left]
    rw [e2]
    by_cases h : v % 2 = 1
    · rw [decide_eq_true h]; simp; omega
    · rw [decide_eq_false h]; simp; omega
theorem bitAt_app (B C : List Int) (i : Nat) (h : i < 8 * B.length) : bitAt (B ++ C) i = bitAt B i := by
  unfold bitAt
  rw [List.getD_eq_getElem?_getD, List.getElem?_append_left (by omega), ← List.getD_eq_getElem?_getD]
theorem bits_app (B C : List Int) (t : Nat) (h : t ≤ 8 * B.length) : (bitsOf (B ++ C)).take t = (bitsOf B).take t := by
  apply List.ext_getElem?
  intro i
  rw [List.getElem?_take, List.getElem?_take]
  split
  · rw [bitsOf_get _ _ (by rw [List.length_append]; omega), bitsOf_get _ _ (by omega), bitAt_app B C i (by omega)]
  · rfl
theorem numAt_app (B C : List Int) (t n : Nat) (h : t + n ≤ 8 * B.length) : numAt (B ++ C) t n = numAt B t n := by
  unfold numAt
  have e : ∀ L : List Bool, (L.drop t).take n = (L.take (t + n)).drop t := fun L => by rw [List.drop_take]; congr 1; omega
  rw [e, e, bits_app B C _ h]
theorem numAt_more (bs : List Bool) (C : List Int) (t : Nat) (v : Int) (n : Nat) (r : List Bool) (ht : t ≤ bs.length) (h0 : 0 ≤ v) (hd : bs.drop t = bitsN v n ++ r) : numAt (bytesOf' bs ++ C) t n = v % pw n ∧ t + n ≤ bs.length := by
  have hl : t + n ≤ bs.length := by
    have := congrArg List.length hd
    rw [List.length_drop, List.length_append, bitsN_len] at this; omega
  refine ⟨?_, hl⟩
  rw [numAt_app _ _ _ _ (by rw [bytesOf'_len]; omega)]
  have h := drop_bytes bs t (bitsN v n) ⟨r, hd⟩ ht
  rw [bitsN_len] at h
  unfold numAt
  rw [h, numOf_bitsN_mod n v h0]
theorem pad_more (bs : List Bool) (C : List Int) : padOk (bytesOf' bs ++ C) bs.length = true := by
  have h := pad_bytes bs
  unfold padOk at h ⊢
  by_cases h8 : bs.length % 8 = 0
  · simp [h8]
  · have e : (bytesOf' bs ++ C).getD (bs.length / 8) 0 = (bytesOf' bs).getD (bs.length / 8) 0 := by
      rw [List.getD_eq_getElem?_getD, List.getElem?_append_left (by rw [bytesOf'_len]; omega), ← List.getD_eq_getElem?_getD]
    rw [e]; exact h
end Go.Proofs.Ytmmfkmkhflieeaa
