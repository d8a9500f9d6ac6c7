/- Contracts of the layer runs and of its reference: what is put, what is taken. -/
import Derived.Test.YtokhhnmnhjbnbaaHl
namespace Go.Proofs.Ytokhhnmnhjbnbaa
open Go.RowKit Go.Proofs.YtokhhnmnhjbnbaaW.PrintWords Go.Proofs.YtokhhnmnhjbnbaaW.PrintLast Go.Proofs.YtokhhnmnhjbnbaaW.PrintMore
attribute [local go_sem] max2_int min2_int max_two min_two max_three min_three max_four min_four
set_option linter.unusedSimpArgs false
set_option linter.unusedVariables false
/-- the bits of a number -/
def runBits : Nat → List Bool
  | 0 => [false, false]
  | 1 => [true, false]
  | 2 => [false, true]
  | n + 3 => true :: true :: runBits n
theorem runBits_len : ∀ n, (runBits n).length = 2 * (n / 3 + 1)
  | 0 => rfl
  | 1 => rfl
  | 2 => rfl
  | n + 3 => by simp only [runBits, List.length_cons, runBits_len n]; omega
theorem bitsN_small (n : Nat) (h : n < 3) : bitsN (n : Int) 2 = runBits n := by
  have : n = 0 ∨ n = 1 ∨ n = 2 := by omega
  rcases this with rfl | rfl | rfl <;> decide
theorem bitsN_three : bitsN 3 2 = [true, true] := by decide
def costR (n : Int) : Int := if 0 ≤ n ∧ n ≤ 255 then 2 * (n / 3 + 1) else 0
theorem costR_runBits (n : Nat) (h : n ≤ 255) : costR (n : Int) = ((runBits n).length : Int) := by
  unfold costR; rw [if_pos ⟨by omega, by omega⟩, runBits_len]; omega
theorem costR_no (n : Int) (h : ¬ (0 ≤ n ∧ n ≤ 255)) : costR n = 0 := by unfold costR; rw [if_neg h]
set_option maxHeartbeats 400000 in
theorem costR_any (n : Int) (w : World) : Calls Try.prog 12 #[.int .i64 n] w fun e w' => e = .returned (.int .i64 (costR n)) ∧ w' = w := by
  by_cases c1 : n < 0
  · have e : costR n = 0 := costR_no n (by omega)
    rw [e]
    go_enter Try.func12, Try.ntmps12
    go_wp2
    go_ret
    exact ⟨rfl, rfl⟩
  · by_cases c2 : 255 < n
    · have e : costR n = 0 := costR_no n (by omega)
      rw [e]
      go_enter Try.func12, Try.ntmps12
      go_wp2
      go_ret
      exact ⟨rfl, rfl⟩
    · have e : costR n = 2 * (n / 3 + 1) := by unfold costR; rw [if_pos ⟨by omega, by omega⟩]
      rw [e]
      have q0 : n.tdiv 3 = n / 3 := Int.tdiv_eq_ediv_of_nonneg (by omega)
      obtain ⟨q, hq⟩ : ∃ q, n / 3 = q := ⟨_, rfl⟩
      have hq0 : 0 ≤ q := by omega
      have hq1 : q ≤ 85 := by omega
      rw [hq] at q0 ⊢
      have w1 : IntKind.i64.wrap q = q := IntWalk.i64_in _ (by omega)
      have w2 : IntKind.i64.wrap (q + 1) = q + 1 := IntWalk.i64_in _ (by omega)
      have w3 : IntKind.i64.wrap (2 * (q + 1)) = 2 * (q + 1) := IntWalk.i64_in _ (by omega)
      clear hq e
      go_enter Try.func12, Try.ntmps12
      go_wp2
      go_ret
      exact ⟨rfl, rfl⟩
section
variable {w0 W : World} {os : List Ob}
theorem hPut2_w {g : Nat} {bs : List Bool} {v : Int} (H : Hold w0 W (wrO g bs :: os)) (hm : bs.length ≤ 100000000000) (h0 : 0 ≤ v) (h1 : v ≤ 4294967295) :
    Calls Try.prog 26 #[.pointer (some ⟨g, 0, none⟩), .int .u32 v, .int .i64 2] W fun e w' => e = .returned (.bool true) ∧ Hold w0 w' (wrO g (bs ++ bitsN v 2) :: os) :=
  hPut_w (n := 2) H hm h0 h1 (by omega)
set_option maxHeartbeats 1000000 in
theorem hPut_ru {g : Nat} {bs : List Bool} (H : Hold w0 W (wrO g bs :: os)) (hm : bs.length ≤ 1000000000) (n : Nat) (hn : n ≤ 255) :
    Calls Try.prog 11 #[.pointer (some ⟨g, 0, none⟩), .int .i64 (n : Int)] W fun e w' => e = .returned (.bool true) ∧ Hold w0 w' (wrO g (bs ++ runBits n) :: os) := by
  have H := Lib.hid H
  have HC := Lib.hid (fun w => costR_any (n : Int) w)
  obtain ⟨N, hN⟩ : ∃ N : Nat, costR (n : Int) = ((N + 1 : Nat) : Int) := ⟨2 * (n / 3) + 1, by rw [costR_runBits n hn, runBits_len]; omega⟩
  rw [hN] at HC
  have hN1 : (((N + 1 : Nat) : Int) == 0) = false := beq_false_of_ne (by omega)
  have HL := Lib.hid (runBits_len n)
  clear hN
  generalize ((N + 1 : Nat) : Int) = M at *
  go_enter Try.func11, Try.ntmps11
  go_wp2_with (go_at_call 12; (with_reducible refine (HC.out _).mono ?_); rintro e w1 ⟨rfl, rfl⟩)
  go_loopg [1] n (fun k v wr => ∃ bs' : List Bool, v = .int .i64 (k : Int) ∧ k ≤ n ∧ Hid (bs' ++ runBits k = bs ++ runBits n) ∧ Hid (Hold w0 wr (wrO g bs' :: os)))
  case atStart => exact ⟨bs, rfl, Nat.le_refl _, Lib.hid rfl, H⟩
  case round =>
    obtain ⟨bs', rfl, hk, HE, H2⟩ := hrel
    clear H
    have H := H2
    clear H2
    have HB := Lib.hid (show bs'.length ≤ 100000000000 by
      have h1 := congrArg List.length HE.out
      rw [List.length_append, List.length_append, HL.out] at h1
      omega)
    rcases Nat.lt_or_ge gk 3 with c | c
    · have c1 : ¬ (3 ≤ (gk : Int)) := by omega
      have wv : (gk : Int) % 4294967296 = (gk : Int) := by omega
      have HP := Lib.hid (fun W (h : Hold w0 W (wrO g bs' :: os)) => hPut2_w (v := (gk : Int)) h HB.out (by omega) (by omega))
      rw [bitsN_small gk c, HE.out] at HP
      go_wp2_with (go_at_call 26; (with_reducible refine (HP.out _ H.out).mono ?_); rintro e w1 ⟨rfl, h⟩; replace H := Lib.hid h; clear h)
      go_ret
      exact ⟨rfl, H.out⟩
    · obtain ⟨i, rfl⟩ : ∃ i, gk = i + 3 := ⟨gk - 3, by omega⟩
      have c1 : 3 ≤ ((i + 3 : Nat) : Int) := by omega
      have HP := Lib.hid (fun W (h : Hold w0 W (wrO g bs' :: os)) => hPut2_w (v := 3) h HB.out (by omega) (by omega))
      rw [bitsN_three] at HP
      have HE2 := Lib.hid (show (bs' ++ [true, true]) ++ runBits i = bs ++ runBits n by rw [← HE.out]; simp [runBits])
      have ws : IntKind.i64.wrap (((i + 3 : Nat) : Int) - 3) = (i : Int) := by rw [IntWalk.i64_in _ (by omega)]; omega
      go_wp2_with (go_at_call 26; (with_reducible refine (HP.out _ H.out).mono ?_); rintro e w1 ⟨rfl, h⟩; replace H := Lib.hid h; clear h)
      go_roundg i
      case measure => omega
      case rel => exact ⟨_, rfl, by omega, HE2, H⟩
set_option maxHeartbeats 400000 in
theorem hPutN_ru {g : Nat} (H : Hold w0 W os) (n : Int) (hn : ¬ (0 ≤ n ∧ n ≤ 255)) :
    Calls Try.prog 11 #[.pointer (some ⟨g, 0, none⟩), .int .i64 n] W fun e w' => e = .returned (.bool false) ∧ w' = W := by
  have HC := Lib.hid (fun w => costR_any n w)
  rw [costR_no n hn] at HC
  go_enter Try.func11, Try.ntmps11
  go_wp2_with (go_at_call 12; (with_reducible refine (HC.out _).mono ?_); rintro e w1 ⟨rfl, rfl⟩)
  go_ret
  exact ⟨rfl, rfl⟩
end
/-! what is taken -/
def tkR (l : List Int) (most : Int) (n : Int) (t : Nat) : Int × Int × Nat :=
  if h : t + 2 ≤ 8 * l.length then
    if most < n + numAt l t 2 then (0, 13, t + 2)
    else if numAt l t 2 < 3 then (n + numAt l t 2, 0, t + 2)
    else tkR l most (n + numAt l t 2) (t + 2)
  else (0, 3, t)
termination_by 8 * l.length - t
def takeR (l : List Int) (most : Int) (t : Nat) : Int × Int × Nat := if 0 ≤ most ∧ most ≤ 255 then tkR l most 0 t else (0, 1, t)
theorem tkR_le (l : List Int) (most : Int) : ∀ (j : Nat) (n : Int) (t : Nat), 8 * l.length - t = j → t ≤ 8 * l.length → ∀ {v e : Int} {t' : Nat}, tkR l most n t = (v, e, t') → t' ≤ 8 * l.length := by
  intro j
  induction j using Nat.strongRecOn with
  | _ j ih =>
  intro n t hj ht v e t' h
  rw [tkR] at h
  by_cases hc : t + 2 ≤ 8 * l.length
  · rw [dif_pos hc] at h
    split at h
    · simp only [Prod.mk.injEq] at h; omega
    · split at h
      · simp only [Prod.mk.injEq] at h; omega
      · exact ih _ (by omega) _ _ rfl hc h
  · rw [dif_neg hc] at h
    simp only [Prod.mk.injEq] at h; omega
theorem takeR_le {l : List Int} {most : Int} {t : Nat} {v e : Int} {t' : Nat} (h : takeR l most t = (v, e, t')) (ht : t ≤ 8 * l.length) : t' ≤ 8 * l.length := by
  unfold takeR at h
  split at h
  · exact tkR_le l most _ _ _ rfl ht h
  · simp only [Prod.mk.injEq] at h; omega
theorem num2_bd (l : List Int) (t : Nat) : 0 ≤ numAt l t 2 ∧ numAt l t 2 < 4 := by
  have := numAt_bd l t 2
  rw [show pw 2 = 4 from by decide] at this
  exact this
section
variable {w0 W : World} {os : List Ob}
theorem hTakeN_r {g : Nat} {l : List Int} {t n : Nat} (H : Hold w0 W (rdO g l t :: os)) (ht : t ≤ 8 * l.length) (hm : l.length ≤ 140737488351232) (hn : n ≤ 24) (hs : 8 * l.length < t + n) :
    Calls Try.prog 28 #[.pointer (some ⟨g, 0, none⟩), .int .i64 (n : Int)] W fun e w' => e = .returned (.tuple #[.int .u32 0, .bool false]) ∧ Hold w0 w' (rdO g l t :: os) :=
  H.call1 fun F ⟨A, c, hI, hF⟩ => (btake_no g l t n W hI ht hm (.inr ⟨by omega, .inr ⟨by omega, by omega⟩⟩)).mono fun e w' ⟨h1, h2, h3⟩ => ⟨h1, by rw [hF]; exact rdO_turn h2 h3⟩
theorem hTake_q {g : Nat} {l : List Int} {t n : Nat} (H : Hold w0 W (qrO g (bitsOf l) t :: os)) (ht : t + n ≤ 8 * l.length) (hn : n ≤ 24) :
    Calls Try.prog 29 #[.pointer (some ⟨g, 0, none⟩), .int .i64 (n : Int)] W fun e w' => e = .returned (.tuple #[.int .u32 (numAt l t n), .bool true]) ∧ Hold w0 w' (qrO g (bitsOf l) (t + n) :: os) :=
  H.call1 fun F ⟨A, c, hI, hF⟩ => (qtake_ok g (bitsOf l) t n W hI (by rw [bitsOf_len]; exact ht) hn).mono fun e w' ⟨h1, h2, h3⟩ => ⟨h1, by rw [hF]; exact qrO_turn h2 h3⟩
theorem hTakeN_q {g : Nat} {l : List Int} {t n : Nat} (H : Hold w0 W (qrO g (bitsOf l) t :: os)) (ht : t ≤ 8 * l.length) (hn : n ≤ 24) (hs : 8 * l.length < t + n) :
    Calls Try.prog 29 #[.pointer (some ⟨g, 0, none⟩), .int .i64 (n : Int)] W fun e w' => e = .returned (.tuple #[.int .u32 0, .bool false]) ∧ Hold w0 w' (qrO g (bitsOf l) t :: os) :=
  H.call1 fun F ⟨A, c, hI, hF⟩ => (qtake_no g (bitsOf l) t n W hI (by rw [bitsOf_len]; exact ht) (.inr ⟨by omega, .inr ⟨by omega, by rw [bitsOf_len]; omega⟩⟩)).mono fun e w' ⟨h1, h2, h3⟩ => ⟨h1, by rw [hF]; exact qrO_turn h2 h3⟩
theorem hTake2_r {g : Nat} {l : List Int} {t : Nat} (H : Hold w0 W (rdO g l t :: os)) (ht : t + 2 ≤ 8 * l.length) (hm : l.length ≤ 140737488351232) (hok : ∀ x, x ∈ l → 0 ≤ x ∧ x ≤ 255) :
    Calls Try.prog 28 #[.pointer (some ⟨g, 0, none⟩), .int .i64 2] W fun e w' => e = .returned (.tuple #[.int .u32 (numAt l t 2), .bool true]) ∧ Hold w0 w' (rdO g l (t + 2) :: os) :=
  hTake_r (n := 2) H ht (by omega) hm hok
theorem hTakeN2_r {g : Nat} {l : List Int} {t : Nat} (H : Hold w0 W (rdO g l t :: os)) (ht : t ≤ 8 * l.length) (hm : l.length ≤ 140737488351232) (hs : 8 * l.length < t + 2) :
    Calls Try.prog 28 #[.pointer (some ⟨g, 0, none⟩), .int .i64 2] W fun e w' => e = .returned (.tuple #[.int .u32 0, .bool false]) ∧ Hold w0 w' (rdO g l t :: os) :=
  hTakeN_r (n := 2) H ht hm (by omega) hs
theorem hTake2_q {g : Nat} {l : List Int} {t : Nat} (H : Hold w0 W (qrO g (bitsOf l) t :: os)) (ht : t + 2 ≤ 8 * l.length) :
    Calls Try.prog 29 #[.pointer (some ⟨g, 0, none⟩), .int .i64 2] W fun e w' => e = .returned (.tuple #[.int .u32 (numAt l t 2), .bool true]) ∧ Hold w0 w' (qrO g (bitsOf l) (t + 2) :: os) :=
  hTake_q (n := 2) H ht (by omega)
theorem hTakeN2_q {g : Nat} {l : List Int} {t : Nat} (H : Hold w0 W (qrO g (bitsOf l) t :: os)) (ht : t ≤ 8 * l.length) (hs : 8 * l.length < t + 2) :
    Calls Try.prog 29 #[.pointer (some ⟨g, 0, none⟩), .int .i64 2] W fun e w' => e = .returned (.tuple #[.int .u32 0, .bool false]) ∧ Hold w0 w' (qrO g (bitsOf l) t :: os) :=
  hTakeN_q (n := 2) H ht (by omega) hs
set_option maxHeartbeats 2000000 in
theorem hTake_qru {g : Nat} {l : List Int} {t : Nat} {most : Int} (H : Hold w0 W (qrO g (bitsOf l) t :: os)) (ht : t ≤ 8 * l.length) (hm : l.length ≤ 1000000000) {v e : Int} {t' : Nat} (hb : takeR l most t = (v, e, t')) :
    Calls Try.prog 20 #[.pointer (some ⟨g, 0, none⟩), .int .i64 most] W fun r w' => r = .returned (.tuple #[.int .i64 v, .int .i64 e]) ∧ Hold w0 w' (qrO g (bitsOf l) t' :: os) := by
  have H := Lib.hid H
  unfold takeR at hb
  by_cases hr : 0 ≤ most ∧ most ≤ 255
  · rw [if_pos hr] at hb
    have c1 : ¬ (most < 0) := by omega
    have c2 : ¬ (255 < most) := by omega
    have HK := Lib.hid hb
    have HT := Lib.hid ht
    have HR := Lib.hid hr
    clear hb ht hr
    go_enter Try.func20, Try.ntmps20
    go_wp2
    go_loopg [6] (8 * l.length - t) (fun k u wr => ∃ (n : Int) (s : Nat), u = .int .i64 n ∧ s ≤ 8 * l.length ∧ k = 8 * l.length - s ∧ 0 ≤ n ∧ n ≤ 255 ∧ Hid (tkR l most n s = (v, e, t')) ∧ Hid (Hold w0 wr (qrO g (bitsOf l) s :: os)))
    case atStart => exact ⟨0, t, rfl, HT.out, rfl, by omega, by omega, HK, H⟩
    case round =>
      obtain ⟨n, s, rfl, hs, hk, hn0, hn1, HQ, H2⟩ := hrel
      clear H HK
      have H := H2
      clear H2
      have HKM := Lib.hid hk
      have hb := HQ.out
      rw [tkR] at hb
      by_cases hc : s + 2 ≤ 8 * l.length
      · rw [dif_pos hc] at hb
        have hx := num2_bd l s
        have HTK := Lib.hid (fun W (h : Hold w0 W (qrO g (bitsOf l) s :: os)) => hTake2_q h hc)
        generalize numAt l s 2 = x at *
        have wc : IntKind.i64.wrap x = x := IntWalk.i64_in _ (by omega)
        have ws : IntKind.i64.wrap (n + x) = n + x := IntWalk.i64_in _ (by omega)
        by_cases hm1 : most < n + x
        · rw [if_pos hm1] at hb
          simp only [Prod.mk.injEq] at hb
          obtain ⟨rfl, rfl, rfl⟩ := hb
          go_wp2_with (go_at_call 29; (with_reducible refine (HTK.out _ H.out).mono ?_); rintro e w1 ⟨rfl, h⟩; replace H := Lib.hid h; clear h)
          go_ret2
          exact ⟨rfl, H.out⟩
        · rw [if_neg hm1] at hb
          by_cases hx3 : x < 3
          · rw [if_pos hx3] at hb
            simp only [Prod.mk.injEq] at hb
            obtain ⟨rfl, rfl, rfl⟩ := hb
            go_wp2_with (go_at_call 29; (with_reducible refine (HTK.out _ H.out).mono ?_); rintro e w1 ⟨rfl, h⟩; replace H := Lib.hid h; clear h)
            go_ret2
            exact ⟨rfl, H.out⟩
          · rw [if_neg hx3] at hb
            have HB2 := Lib.hid hb
            clear hb HQ
            have hle : n + x ≤ 255 := by have := HR.out; omega
            go_wp2_with (go_at_call 29; (with_reducible refine (HTK.out _ H.out).mono ?_); rintro e w1 ⟨rfl, h⟩; replace H := Lib.hid h; clear h)
            go_roundg (8 * l.length - (s + 2))
            case measure => have := HKM.out; omega
            case rel => exact ⟨n + x, s + 2, rfl, hc, rfl, by omega, hle, HB2, H⟩
      · rw [dif_neg hc] at hb
        simp only [Prod.mk.injEq] at hb
        obtain ⟨rfl, rfl, rfl⟩ := hb
        have HTK := Lib.hid (fun W (h : Hold w0 W (qrO g (bitsOf l) s :: os)) => hTakeN2_q h hs (by omega))
        go_wp2_with (go_at_call 29; (with_reducible refine (HTK.out _ H.out).mono ?_); rintro e w1 ⟨rfl, h⟩; replace H := Lib.hid h; clear h)
        go_ret2
        exact ⟨rfl, H.out⟩
  · rw [if_neg hr] at hb
    simp only [Prod.mk.injEq] at hb
    obtain ⟨rfl, rfl, rfl⟩ := hb
    by_cases c1 : most < 0
    · go_enter Try.func20, Try.ntmps20
      go_wp2
      go_ret2
      exact ⟨rfl, H.out⟩
    · have c2 : 255 < most := by omega
      go_enter Try.func20, Try.ntmps20
      go_wp2
      go_ret2
      exact ⟨rfl, H.out⟩
set_option maxHeartbeats 4000000 in
theorem hTake_ru {g : Nat} {l : List Int} {t : Nat} {most : Int} (H : Hold w0 W (rdO g l t :: os)) (ht : t ≤ 8 * l.length) (hm : l.length ≤ 1000000000) (hok : ∀ x, x ∈ l → 0 ≤ x ∧ x ≤ 255) {v e : Int} {t' : Nat} (hb : takeR l most t = (v, e, t')) :
    Calls Try.prog 19 #[.pointer (some ⟨g, 0, none⟩), .int .i64 most] W fun r w' => r = .returned (.tuple #[.int .i64 v, .int .i64 e]) ∧ Hold w0 w' (rdO g l t' :: os) := by
  have H := Lib.hid H
  have HOK := Lib.hid hok
  clear hok
  unfold takeR at hb
  by_cases hr : 0 ≤ most ∧ most ≤ 255
  · rw [if_pos hr] at hb
    have c1 : ¬ (most < 0) := by omega
    have c2 : ¬ (255 < most) := by omega
    have HK := Lib.hid hb
    have HT := Lib.hid ht
    have HR := Lib.hid hr
    clear hb ht hr
    go_enter Try.func19, Try.ntmps19
    go_wp2
    go_loopg [6, 7] (8 * l.length - t + 1) (fun k u b wr => ∃ (n : Int) (s : Nat) (last : Bool), u = .int .i64 n ∧ b = .bool last ∧ s ≤ 8 * l.length ∧ 0 ≤ n ∧ n ≤ 255 ∧ Hid ((last = false ∧ k = 8 * l.length - s + 1 ∧ tkR l most n s = (v, e, t')) ∨ (last = true ∧ (n, (0 : Int), s) = (v, e, t'))) ∧ Hid (Hold w0 wr (rdO g l s :: os)))
    case atStart => exact ⟨0, t, false, rfl, rfl, HT.out, by omega, by omega, Lib.hid (.inl ⟨rfl, rfl, HK.out⟩), H⟩
    case round =>
      obtain ⟨n, s, last, rfl, rfl, hs, hn0, hn1, HQ, H2⟩ := hrel
      clear H HK
      have H := H2
      clear H2
      rcases HQ.out with ⟨rfl, hk, hb⟩ | ⟨rfl, hb⟩
      · have HKM := Lib.hid hk
        clear HQ hk
        rw [tkR] at hb
        by_cases hc : s + 2 ≤ 8 * l.length
        · rw [dif_pos hc] at hb
          have hx := num2_bd l s
          have HTK := Lib.hid (fun W (h : Hold w0 W (rdO g l s :: os)) => hTake2_r h hc (by omega) HOK.out)
          generalize numAt l s 2 = x at *
          have wc : IntKind.i64.wrap x = x := IntWalk.i64_in _ (by omega)
          have ws : IntKind.i64.wrap (n + x) = n + x := IntWalk.i64_in _ (by omega)
          obtain ⟨m, hm2⟩ : ∃ m, n + x = m := ⟨_, rfl⟩
          rw [hm2] at hb ws
          by_cases hm1 : most < m
          · rw [if_pos hm1] at hb
            simp only [Prod.mk.injEq] at hb
            obtain ⟨rfl, rfl, rfl⟩ := hb
            have hx4 : x = 0 ∨ x = 1 ∨ x = 2 ∨ x = 3 := by omega
            rcases hx4 with rfl | rfl | rfl | rfl
            all_goals go_wp2_with (go_at_call 28; (with_reducible refine (HTK.out _ H.out).mono ?_); rintro e w1 ⟨rfl, h⟩; replace H := Lib.hid h; clear h)
            all_goals go_ret2
            all_goals exact ⟨rfl, H.out⟩
          · rw [if_neg hm1] at hb
            have hle : m ≤ 255 := by have := HR.out; omega
            by_cases hx3 : x < 3
            · rw [if_pos hx3] at hb
              have HB2 := Lib.hid hb
              clear hb
              have hx4 : x = 0 ∨ x = 1 ∨ x = 2 := by omega
              rcases hx4 with rfl | rfl | rfl
              all_goals go_wp2_with (go_at_call 28; (with_reducible refine (HTK.out _ H.out).mono ?_); rintro e w1 ⟨rfl, h⟩; replace H := Lib.hid h; clear h)
              all_goals go_roundg 0
              all_goals first
                | (have := HKM.out; omega)
                | exact ⟨m, s + 2, true, rfl, rfl, hc, by omega, hle, Lib.hid (.inr ⟨rfl, HB2.out⟩), H⟩
            · rw [if_neg hx3] at hb
              have HB2 := Lib.hid hb
              clear hb
              obtain rfl : x = 3 := by omega
              go_wp2_with (go_at_call 28; (with_reducible refine (HTK.out _ H.out).mono ?_); rintro e w1 ⟨rfl, h⟩; replace H := Lib.hid h; clear h)
              go_roundg (8 * l.length - (s + 2) + 1)
              case measure => have := HKM.out; omega
              case rel => exact ⟨m, s + 2, false, rfl, rfl, hc, by omega, hle, Lib.hid (.inl ⟨rfl, rfl, HB2.out⟩), H⟩
        · rw [dif_neg hc] at hb
          simp only [Prod.mk.injEq] at hb
          obtain ⟨rfl, rfl, rfl⟩ := hb
          have HTK := Lib.hid (fun W (h : Hold w0 W (rdO g l s :: os)) => hTakeN2_r h hs (by omega) (by omega))
          go_wp2_with (go_at_call 28; (with_reducible refine (HTK.out _ H.out).mono ?_); rintro e w1 ⟨rfl, h⟩; replace H := Lib.hid h; clear h)
          go_ret2
          exact ⟨rfl, H.out⟩
      · simp only [Prod.mk.injEq] at hb
        obtain ⟨rfl, rfl, rfl⟩ := hb
        go_wp2
        go_ret2
        exact ⟨rfl, H.out⟩
  · rw [if_neg hr] at hb
    simp only [Prod.mk.injEq] at hb
    obtain ⟨rfl, rfl, rfl⟩ := hb
    by_cases c1 : most < 0
    · go_enter Try.func19, Try.ntmps19
      go_wp2
      go_ret2
      exact ⟨rfl, H.out⟩
    · have c2 : 255 < most := by omega
      go_enter Try.func19, Try.ntmps19
      go_wp2
      go_ret2
      exact ⟨rfl, H.out⟩
end
end Go.Proofs.Ytokhhnmnhjbnbaa
