/- The layer runs' laws: the example, RunsPuts, RunsTakes, RunsCost. -/
import Derived.Test.YtokhhnmnhjbnbaaRv
namespace Go.Proofs.Ytokhhnmnhjbnbaa
open Go.RowKit Go.Proofs.YtokhhnmnhjbnbaaW.PrintWords Go.Proofs.YtokhhnmnhjbnbaaW.PrintLast Go.Proofs.YtokhhnmnhjbnbaaW.PrintMore
attribute [local go_sem] max2_int min2_int max_two min_two max_three min_three max_four min_four
set_option linter.unusedSimpArgs false
set_option linter.unusedVariables false
theorem take31a : takeR [31] 7 0 = (7, 0, 6) := by
  unfold takeR
  rw [if_pos (by decide), tkR, dif_pos (by decide), if_neg (by decide), if_neg (by decide), tkR, dif_pos (by decide), if_neg (by decide), if_neg (by decide), tkR, dif_pos (by decide), if_neg (by decide), if_pos (by decide)]
  decide
theorem take31b : takeR [31] 6 0 = (0, 13, 6) := by
  unfold takeR
  rw [if_pos (by decide), tkR, dif_pos (by decide), if_neg (by decide), if_neg (by decide), tkR, dif_pos (by decide), if_neg (by decide), if_neg (by decide), tkR, dif_pos (by decide), if_pos (by decide)]
set_option maxHeartbeats 2000000 in
theorem awake14 (w : World) :
    Calls Try.prog 8 #[] w fun e w' => e = .returned (.bool true) ∧ Below w.heap.size w w' := by
  have H := Lib.hid (Hold.start w)
  have E1 := Lib.hid (show runBits 7 = [true, true, true, true, true, false] by decide)
  have E3 := Lib.hid (show bytesOf' [true, true, true, true, true, false] = [31] by decide)
  have E4 := Lib.hid (show costR 7 = 6 by decide)
  have E5 := Lib.hid take31a
  have E6 := Lib.hid take31b
  have OK := Lib.hid (show ∀ x, x ∈ [31] → (0 : Int) ≤ x ∧ x ≤ 255 by decide)
  have HP := Lib.hid (fun W g (h : Hold w W [wrO g []]) => hPut_ru h (by decide) 7 (by decide))
  rw [E1.out] at HP
  simp only [List.nil_append] at HP
  rw [show ((7 : Nat) : Int) = 7 from rfl] at HP
  have HT1 := Lib.hid (fun W g os (h : Hold w W (rdO g [31] 0 :: os)) => hTake_ru h (by decide) (by decide) OK.out E5.out)
  have HT2 := Lib.hid (fun W g os (h : Hold w W (rdO g [31] 0 :: os)) => hTake_ru h (by decide) (by decide) OK.out E6.out)
  have HC := Lib.hid (fun W => costR_any 7 W)
  rw [E4.out] at HC
  clear E1 E4 E5 E6
  generalize hbs : [true, true, true, true, true, false] = bs at *
  have HL := Lib.hid (show (bs.length : Int) = 6 by rw [← hbs]; rfl)
  have HB := Lib.hid (show bs.length ≤ 1000000000000 by rw [← hbs]; decide)
  clear hbs
  go_enter Try.func8, Try.ntmps8
  go_wp2_with (first
    | (go_at_call 9; (with_reducible refine (hNew_w H.out).mono ?_); rintro e w1 ⟨g, rfl, h⟩; replace H := Lib.hid h; clear h)
    | (go_at_call 11; (with_reducible refine (HP.out _ _ H.out).mono ?_); rintro e w1 ⟨rfl, h⟩; replace H := Lib.hid h; clear h)
    | (go_at_call 15; (with_reducible refine (hBytes_w H.out HB.out).mono ?_); rintro e w1 ⟨A1, c1, rfl, hr, hn, _, hb⟩; rw [E3.out] at hr; rw [show (bytesOf' bs).length = 1 by rw [E3.out]; rfl]; replace hr := (show ReadsInt _ .u8 A1 1 [31] from hr); replace H := Lib.hid (H.out.below hb); have RR := Lib.hid hr; have NL := Lib.hid hn; clear hb hr hn)
    | (go_at_call 15; (with_reducible refine (hBytes_w H.out.swap HB.out).mono ?_); rintro e w1 ⟨A1, c1, rfl, hr, hn, _, hb⟩; rw [E3.out] at hr; rw [show (bytesOf' bs).length = 1 by rw [E3.out]; rfl]; replace hr := (show ReadsInt _ .u8 A1 1 [31] from hr); replace H := Lib.hid (H.out.swap.below hb); have RR := Lib.hid hr; have NL := Lib.hid hn; clear hb hr hn)
    | (go_at_call 17; (with_reducible refine (hNew_r (l := [31]) H.out (show [31].length = 1 from rfl) RR.out (by decide) NL.out).mono ?_); rintro e w1 ⟨g2, rfl, h, _⟩; replace H := Lib.hid h; clear h RR NL)
    | (go_at_call 19; (with_reducible refine (HT1.out _ _ _ H.out.third).mono ?_); rintro e w1 ⟨rfl, h⟩; replace H := Lib.hid h; clear h)
    | (go_at_call 19; (with_reducible refine (HT2.out _ _ _ H.out.swap).mono ?_); rintro e w1 ⟨rfl, h⟩; replace H := Lib.hid h.third; clear h)
    | (go_at_call 13; (with_reducible refine (hBits_w H.out).mono ?_); rintro e w1 ⟨rfl, rfl⟩; rw [HL.out])
    | (go_at_call 12; (with_reducible refine (HC.out _).mono ?_); rintro e w1 ⟨rfl, rfl⟩))
  go_ret
  exact ⟨rfl, H.out.B⟩
set_option maxHeartbeats 4000000 in
theorem rutakes_walk (a : Option Addr) (len cap : Nat) (zs : List Int) (b : Option Addr) (len2 cap2 : Nat) (zs2 : List Int) (w : World) (h : IsRow .u8 w a len cap zs) (y : len * 1 ≤ 140737488351232) (h' : IsRow .i64 w b len2 cap2 zs2) (y' : len2 * 8 ≤ 140737488351232) :
    Calls Try.prog 4 #[.slice a len cap, .slice b len2 cap2] w fun e w' => e = .returned (.bool true) ∧ Below w.heap.size w w' := by
  obtain ⟨l, rfl, hr, _, hwf⟩ := h.reads (by omega)
  obtain ⟨m, rfl, hq, _, hwf2⟩ := h'.reads (by omega)
  have R0 := Lib.hid hr
  have R1 := Lib.hid hq
  have BL := Lib.hid (show ∀ x, x ∈ l → 0 ≤ x ∧ x ≤ 255 from wf_u8 hwf)
  have NL := Lib.hid h.nil
  have H := Lib.hid (Hold.start w)
  clear h h' hr hq hwf hwf2 y y'
  by_cases hs : l.length ≤ 200
  · by_cases hs2 : m.length ≤ 30
    · go_enter Try.func4, Try.ntmps4
      go_wp2_with (first
        | (go_at_call 8; (with_reducible refine (awake14 _).mono ?_); rintro e w1 ⟨rfl, hb⟩; replace H := Lib.hid (H.out.below hb); clear hb)
        | (go_at_call 17; (with_reducible refine (hNew_r H.out rfl (R0.out.below H.out.B) (by omega) NL.out).mono ?_); rintro e w1 ⟨g, rfl, h, _⟩; replace H := Lib.hid h; clear h)
        | (go_at_call 18; (with_reducible refine (hNew_q H.out rfl (R0.out.below H.out.B) BL.out (by omega)).mono ?_); rintro e w1 ⟨g2, rfl, h, _⟩; replace H := Lib.hid h; clear h))
      go_loopg [8] m.length (fun k q wr => ∃ i t : Nat, i ≤ m.length ∧ k = m.length - i ∧ q = .int .i64 i ∧ t ≤ 8 * l.length ∧ Hid (Hold w wr [qrO g2 (bitsOf l) t, rdO g l t]))
      case atStart => exact ⟨0, 0, by omega, rfl, rfl, by omega, H⟩
      case round =>
        obtain ⟨i, t, hi, hk, rfl, ht, hT⟩ := hrel
        have HK := Lib.hid hk
        have HT := Lib.hid ht
        clear H
        have H := hT
        clear hk ht hT
        by_cases hi2 : i < m.length
        · have i1 : (i : Int) < (m.length : Int) := by omega
          have hR := R1.out.below H.out.B
          obtain ⟨ad, hA, hcell⟩ := reads_cell hR i hi2
          subst hA
          clear hR
          have HCL := Lib.hid (fun wr hb => reads_some R1.out i hi2 wr hb)
          generalize m.getD i 0 = X at hcell HCL
          obtain ⟨v, e, t2, hbk⟩ : ∃ v e t2, takeR l X t = (v, e, t2) := ⟨_, _, _, rfl⟩
          have HT2 := Lib.hid (takeR_le hbk HT.out)
          have HBK := Lib.hid hbk
          clear hbk
          go_wp2_with (first
            | (go_at_call 19; (with_reducible refine (hTake_ru H.out.swap HT.out (by omega) BL.out HBK.out).mono ?_); rintro e w1 ⟨rfl, h⟩; replace H := Lib.hid h.swap; clear h hcell; have hcell := HCL.out _ H.out.B)
            | (go_at_call 20; (with_reducible refine (hTake_qru H.out HT.out (by omega) HBK.out).mono ?_); rintro e w1 ⟨rfl, h⟩; replace H := Lib.hid h; clear h)
            | (go_at_call 21; (with_reducible refine (hLeft_r H.out.swap HT2.out (by omega)).mono ?_); rintro e w1 ⟨rfl, h⟩; replace H := Lib.hid h.swap; clear h)
            | (go_at_call 22; (with_reducible refine (hLeft_q H.out HT2.out).mono ?_); rintro e w1 ⟨rfl, h⟩; replace H := Lib.hid h; clear h))
          go_roundg (m.length - (i + 1))
          case measure => have := HK.out; omega
          case rel => exact ⟨i + 1, t2, by omega, rfl, by go_num, HT2.out, H⟩
        · have i1 : ¬ (i : Int) < (m.length : Int) := by omega
          go_wp2_with (first
            | (go_at_call 21; (with_reducible refine (hLeft_r H.out.swap HT.out (by omega)).mono ?_); rintro e w1 ⟨rfl, h⟩; replace H := Lib.hid h.swap; clear h)
            | (go_at_call 22; (with_reducible refine (hLeft_q H.out HT.out).mono ?_); rintro e w1 ⟨rfl, h⟩; replace H := Lib.hid h; clear h))
          go_ret
          exact ⟨rfl, H.out.B⟩
    · go_enter Try.func4, Try.ntmps4
      go_wp2_with (go_at_call 8; (with_reducible refine (awake14 _).mono ?_); rintro e w1 ⟨rfl, hb⟩; replace H := Lib.hid (H.out.below hb); clear hb)
      go_ret
      exact ⟨rfl, H.out.B⟩
  · go_enter Try.func4, Try.ntmps4
    go_wp2_with (go_at_call 8; (with_reducible refine (awake14 _).mono ?_); rintro e w1 ⟨rfl, hb⟩; replace H := Lib.hid (H.out.below hb); clear hb)
    go_ret
    exact ⟨rfl, H.out.B⟩
end Go.Proofs.Ytokhhnmnhjbnbaa
