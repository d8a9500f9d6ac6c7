/- The layer runs' laws: RunsPuts, RunsCost. -/
import Derived.Test.YtokhhnmnhjbnbaaRa
namespace Go.Proofs.Ytokhhnmnhjbnbaa
open Go.RowKit Go.Proofs.YtokhhnmnhjbnbaaW.PrintWords Go.Proofs.YtokhhnmnhjbnbaaW.PrintLast Go.Proofs.YtokhhnmnhjbnbaaW.PrintMore
attribute [local go_sem] max2_int min2_int max_two min_two max_three min_three max_four min_four
set_option linter.unusedSimpArgs false
set_option linter.unusedVariables false
theorem costR_num (n : Int) (h0 : 0 ≤ n) (h1 : n ≤ 255) : costR n = 2 * (n / 3 + 1) := by unfold costR; rw [if_pos ⟨h0, h1⟩]
set_option maxHeartbeats 2000000 in
theorem rucost_walk (a b : Int) (w : World) (h0 : (Lit.int .u8 a).wf = true) (h1 : (Lit.int .u8 b).wf = true) :
    Calls Try.prog 5 #[.int .u8 a, .int .u8 b] w fun e w' => e = .returned (.bool true) ∧ Below w.heap.size w w' := by
  have h0 := bounds_u8 h0
  have h1 := bounds_u8 h1
  have H := Lib.hid (Hold.start w)
  have wa : IntKind.i64.wrap a = a := IntWalk.i64_in _ (by omega)
  have wb : IntKind.i64.wrap b = b := IntWalk.i64_in _ (by omega)
  have wa3 : IntKind.i64.wrap (a + 3) = a + 3 := IntWalk.i64_in _ (by omega)
  have C1 := Lib.hid (fun w => costR_any a w)
  have C2 := Lib.hid (fun w => costR_any b w)
  have C3 := Lib.hid (fun w => costR_any (a + 3) w)
  have C4 := Lib.hid (fun w => costR_any 256 w)
  rw [show costR 256 = 0 by decide] at C4
  have ex := costR_num a h0.1 h0.2
  have ey := costR_num b h1.1 h1.2
  obtain ⟨x, hx⟩ : ∃ x, costR a = x := ⟨_, rfl⟩
  obtain ⟨y, hy⟩ : ∃ y, costR b = y := ⟨_, rfl⟩
  rw [hx] at C1 ex
  rw [hy] at C2 ey
  have x0 : 2 ≤ x := by omega
  have x1 : x ≤ 172 := by omega
  have x2 : x % 2 = 0 := by omega
  have x3 : x.tmod 2 = 0 := by rw [Int.tmod_eq_emod_of_nonneg (by omega)]; exact x2
  have wx : IntKind.i64.wrap (x + 2) = x + 2 := IntWalk.i64_in _ (by omega)
  have hxy : (decide (b < a) || decide (x ≤ y)) = true := by
    by_cases h : b < a
    · simp [h]
    · have : x ≤ y := by omega
      simp [this]
  by_cases ha : a ≤ 252
  · have e3 : costR (a + 3) = x + 2 := by rw [costR_num (a + 3) (by omega) (by omega)]; omega
    rw [e3] at C3
    by_cases hb : b < a
    · clear e3 ex ey hx hy hxy
      go_enter Try.func5, Try.ntmps5
      go_wp2_with (first
        | (go_at_call 8; (with_reducible refine (awake14 _).mono ?_); rintro e w1 ⟨rfl, hb⟩; replace H := Lib.hid (H.out.below hb); clear hb)
        | (go_at_call 12; (with_reducible refine (C1.out _).mono ?_); rintro e w1 ⟨rfl, rfl⟩)
        | (go_at_call 12; (with_reducible refine (C2.out _).mono ?_); rintro e w1 ⟨rfl, rfl⟩)
        | (go_at_call 12; (with_reducible refine (C3.out _).mono ?_); rintro e w1 ⟨rfl, rfl⟩)
        | (go_at_call 12; (with_reducible refine (C4.out _).mono ?_); rintro e w1 ⟨rfl, rfl⟩))
      go_ret
      exact ⟨rfl, H.out.B⟩
    · have hxy2 : x ≤ y := by omega
      clear e3 ex ey hx hy hxy
      go_enter Try.func5, Try.ntmps5
      go_wp2_with (first
        | (go_at_call 8; (with_reducible refine (awake14 _).mono ?_); rintro e w1 ⟨rfl, hb⟩; replace H := Lib.hid (H.out.below hb); clear hb)
        | (go_at_call 12; (with_reducible refine (C1.out _).mono ?_); rintro e w1 ⟨rfl, rfl⟩)
        | (go_at_call 12; (with_reducible refine (C2.out _).mono ?_); rintro e w1 ⟨rfl, rfl⟩)
        | (go_at_call 12; (with_reducible refine (C3.out _).mono ?_); rintro e w1 ⟨rfl, rfl⟩)
        | (go_at_call 12; (with_reducible refine (C4.out _).mono ?_); rintro e w1 ⟨rfl, rfl⟩))
      go_ret
      exact ⟨rfl, H.out.B⟩
  · by_cases hb : b < a
    · clear ex ey hx hy hxy
      go_enter Try.func5, Try.ntmps5
      go_wp2_with (first
        | (go_at_call 8; (with_reducible refine (awake14 _).mono ?_); rintro e w1 ⟨rfl, hb⟩; replace H := Lib.hid (H.out.below hb); clear hb)
        | (go_at_call 12; (with_reducible refine (C1.out _).mono ?_); rintro e w1 ⟨rfl, rfl⟩)
        | (go_at_call 12; (with_reducible refine (C2.out _).mono ?_); rintro e w1 ⟨rfl, rfl⟩)
        | (go_at_call 12; (with_reducible refine (C4.out _).mono ?_); rintro e w1 ⟨rfl, rfl⟩))
      go_ret
      exact ⟨rfl, H.out.B⟩
    · have hxy2 : x ≤ y := by omega
      clear ex ey hx hy hxy
      go_enter Try.func5, Try.ntmps5
      go_wp2_with (first
        | (go_at_call 8; (with_reducible refine (awake14 _).mono ?_); rintro e w1 ⟨rfl, hb⟩; replace H := Lib.hid (H.out.below hb); clear hb)
        | (go_at_call 12; (with_reducible refine (C1.out _).mono ?_); rintro e w1 ⟨rfl, rfl⟩)
        | (go_at_call 12; (with_reducible refine (C2.out _).mono ?_); rintro e w1 ⟨rfl, rfl⟩)
        | (go_at_call 12; (with_reducible refine (C4.out _).mono ?_); rintro e w1 ⟨rfl, rfl⟩))
      go_ret
      exact ⟨rfl, H.out.B⟩
theorem slice_pre (A : Option Addr) (n c k : Nat) (hk : k ≤ c) (W : World) :
    Sem.run Try.prog (Instr.slice 26 (.slice A n c) none (some (.int .i64 (k : Int))) none) W = .ok (.slice A k c) W := by
  have h2 : (k : Int) ≤ (c : Int) := by omega
  have h3 : 0 ≤ (k : Int) := by omega
  cases A <;> simp [go_sem, Instr.slice, h2, h3, hk]
set_option maxRecDepth 20000 in
set_option maxHeartbeats 4000000 in
theorem ruputs_walk (b : Option Addr) (len2 cap2 : Nat) (zs2 : List Int) (w : World) (h' : IsRow .i64 w b len2 cap2 zs2) (y' : len2 * 8 ≤ 140737488351232) :
    Calls Try.prog 3 #[.slice b len2 cap2] w fun e w' => e = .returned (.bool true) ∧ Below w.heap.size w w' := by
  obtain ⟨m, rfl, hq, _, hwf2⟩ := h'.reads (by omega)
  have R1 := Lib.hid hq
  have H := Lib.hid (Hold.start w)
  clear h' hq hwf2 y'
  by_cases hs2 : m.length ≤ 30
  · go_enter Try.func3, Try.ntmps3
    go_wp2_with (first
      | (go_at_call 8; (with_reducible refine (awake14 _).mono ?_); rintro e w1 ⟨rfl, hb⟩; replace H := Lib.hid (H.out.below hb); clear hb)
      | (go_at_call 9; (with_reducible refine (hNew_w H.out).mono ?_); rintro e w1 ⟨g, rfl, h⟩; replace H := Lib.hid h.nilB.swap; clear h))
    go_loopg [5, 6] m.length (fun k v q wr => ∃ (i : Nat) (A : Option Addr) (n c : Nat) (bs : List Bool), i ≤ m.length ∧ k = m.length - i ∧ v = .slice A n c ∧ q = .int .i64 i ∧ n ≤ c ∧ n ≤ 172 * i ∧ Hid (bs.length = n) ∧ Hid (Hold w wr [wrO g bs, bitO A n bs]))
    case atStart => exact ⟨0, none, 0, 0, [], by omega, rfl, rfl, rfl, by omega, by omega, Lib.hid rfl, H⟩
    case round =>
      obtain ⟨i, A, n, c, bs, hi, hk, rfl, rfl, hnc, hn, HN, hT⟩ := hrel
      have HK := Lib.hid hk
      clear H
      have H := hT
      clear hk hT
      by_cases hi2 : i < m.length
      · have i1 : (i : Int) < (m.length : Int) := by omega
        have hR := R1.out.below H.out.B
        obtain ⟨ad, hA, hcell⟩ := reads_cell hR i hi2
        subst hA
        clear hR
        have HCL := Lib.hid (fun wr hb => reads_some R1.out i hi2 wr hb)
        generalize m.getD i 0 = X at hcell HCL
        by_cases hx : 0 ≤ X ∧ X ≤ 255
        · obtain ⟨x, rfl⟩ : ∃ x : Nat, X = x := ⟨X.toNat, by omega⟩
          have hx2 : x ≤ 255 := by omega
          have hbl := HN.out
          have HP := Lib.hid (fun W (h : Hold w W [wrO g bs, bitO A n bs]) => hPut_q14 x W A n c bs hx2 h.swap hnc (by omega))
          have HQ := Lib.hid (fun W os (h : Hold w W (wrO g bs :: os)) => hPut_ru h (by omega) x hx2)
          have HC := Lib.hid (fun W => costR_any (x : Int) W)
          rw [costR_runBits x hx2] at HC
          have hl := runBits_len x
          have HLN := Lib.hid (show (bs ++ runBits x).length = n + (runBits x).length by rw [List.length_append, hbl])
          clear hbl
          generalize bs ++ runBits x = bs2 at *
          generalize (runBits x).length = R at *
          have r0 : 0 < R := by omega
          have r1 : R ≤ 172 := by omega
          clear hl hx
          have q1 : (n : Int) < (n : Int) + (R : Int) := by omega
          have q2 : (n : Int) < ((n + R : Nat) : Int) := by omega
          have q3 : IntKind.i64.wrap (((n + R : Nat) : Int) - (n : Int)) = (R : Int) := by rw [IntWalk.i64_in _ (by omega)]; omega
          have q4 : IntKind.i64.wrap ((n : Int) + (R : Int) - (n : Int)) = (R : Int) := by rw [IntWalk.i64_in _ (by omega)]; omega
          go_wp2_with (first
            | (go_at_call 10; (with_reducible refine (HP.out _ H.out).mono ?_); rintro e w1 ⟨A1, c1, rfl, hle, h⟩; have HLE := Lib.hid hle; replace H := Lib.hid h.swap; clear h hle hcell; have hcell := HCL.out _ H.out.B)
            | (go_at_call 11; (with_reducible refine (HQ.out _ _ H.out).mono ?_); rintro e w1 ⟨rfl, h⟩; replace H := Lib.hid h; clear h hcell; have hcell := HCL.out _ H.out.B)
            | (go_at_call 12; (with_reducible refine (HC.out _).mono ?_); rintro e w1 ⟨rfl, rfl⟩)
            | (go_at_call 13; (with_reducible refine (hBits_w H.out).mono ?_); rintro e w1 ⟨rfl, rfl⟩; rw [HLN.out]))
          go_roundg (m.length - (i + 1))
          case measure => have := HK.out; omega
          case rel => exact ⟨i + 1, _, _, _, _, by omega, rfl, rfl, by go_num, HLE.out, by omega, HLN, H⟩
        · have HP := Lib.hid (fun W => put14_no (.slice A n c) X W hx)
          have HQ := Lib.hid (fun W os (h : Hold w W os) => hPutN_ru (g := g) h X hx)
          have HC := Lib.hid (fun W => costR_any X W)
          rw [costR_no X hx] at HC
          clear hx
          go_wp2_with (first
            | (go_at_call 10; (with_reducible refine (HP.out _).mono ?_); rintro e w1 ⟨rfl, rfl⟩)
            | (go_at_call 11; (with_reducible refine (HQ.out _ _ H.out).mono ?_); rintro e w1 ⟨rfl, rfl⟩)
            | (go_at_call 12; (with_reducible refine (HC.out _).mono ?_); rintro e w1 ⟨rfl, rfl⟩)
            | (go_at_call 13; (with_reducible refine (hBits_w H.out).mono ?_); rintro e w1 ⟨rfl, rfl⟩; rw [HN.out]))
          go_roundg (m.length - (i + 1))
          case measure => have := HK.out; omega
          case rel => exact ⟨i + 1, _, _, _, _, by omega, rfl, rfl, by go_num, hnc, by omega, HN, H⟩
      · have i1 : ¬ (i : Int) < (m.length : Int) := by omega
        have hbl := HN.out
        have HM := Lib.hid (show bs.length ≤ 1000000000000 by omega)
        have BO := Lib.hid (bytesOf'_ok bs)
        clear hbl
        go_wp2_with (first
          | (go_at_call 15; (with_reducible refine (hBytes_w H.out HM.out).mono ?_); rintro e w1 ⟨A2, c2, rfl, hr, _, _, hb⟩; replace H := Lib.hid (H.out.below hb); have P1 := Lib.hid hr; clear hb hr)
          | (go_at_call 16; (with_reducible refine (bytes_any _ _ bs _ _ HN.out H.out.swap.rowB (by omega)).mono ?_); rintro e w1 ⟨v_, rfl, ho, hb⟩; obtain ⟨A3, c3, rfl, hle, hr⟩ := own_reads' ho; replace H := Lib.hid (H.out.below hb); have P2 := Lib.hid hr; replace P1 := Lib.hid (P1.out.below hb); clear hb hr ho hle)
          | (go_at_call 14; (with_reducible refine (same_any _ _ _ _ _ _ _ _ _ P1.out P2.out BO.out BO.out).mono ?_); rintro e w1 ⟨rfl, rfl⟩; rw [eqB_self]))
        go_ret
        exact ⟨rfl, H.out.B⟩
  · go_enter Try.func3, Try.ntmps3
    go_wp2_with (go_at_call 8; (with_reducible refine (awake14 _).mono ?_); rintro e w1 ⟨rfl, hb⟩; replace H := Lib.hid (H.out.below hb); clear hb)
    go_ret
    exact ⟨rfl, H.out.B⟩
end Go.Proofs.Ytokhhnmnhjbnbaa
