/- The layer runs' laws: RunsOne. -/
import Derived.Test.YtokhhnmnhjbnbaaRp
import Derived.Deep.RegionHeld3
namespace Go.Proofs.Ytokhhnmnhjbnbaa
open Go.RowKit Go.Proofs.YtokhhnmnhjbnbaaW.PrintWords Go.Proofs.YtokhhnmnhjbnbaaW.PrintLast Go.Proofs.YtokhhnmnhjbnbaaW.PrintMore
attribute [local go_sem] max2_int min2_int max_two min_two max_three min_three max_four min_four
set_option linter.unusedSimpArgs false
set_option linter.unusedVariables false
theorem tkR_ok (l : List Int) (most : Int) : ∀ (j : Nat) (n : Int) (t : Nat), 8 * l.length - t = j → t ≤ 8 * l.length → ∀ {v e : Int} {t' : Nat}, tkR l most n t = (v, e, t') →
    (e = 0 ∧ ∃ m : Nat, v = n + m ∧ v ≤ most ∧ t' = t + (runBits m).length ∧ (bitsOf l).take t ++ runBits m = (bitsOf l).take t') ∨ (v = 0 ∧ (e = 3 ∨ e = 13)) := by
  intro j
  induction j using Nat.strongRecOn with
  | _ j ih =>
  intro n t hj ht v e t' h
  rw [tkR] at h
  by_cases hc : t + 2 ≤ 8 * l.length
  · rw [dif_pos hc] at h
    have hx := num2_bd l t
    have hb := bitsN_numAt l t 2 hc
    obtain ⟨x, hX⟩ : ∃ x : Nat, numAt l t 2 = x := ⟨(numAt l t 2).toNat, by omega⟩
    rw [hX] at h hx hb
    by_cases h1 : most < n + x
    · rw [if_pos h1] at h
      simp only [Prod.mk.injEq] at h
      exact .inr ⟨h.1.symm, .inr h.2.1.symm⟩
    · rw [if_neg h1] at h
      by_cases h2 : (x : Int) < 3
      · rw [if_pos h2] at h
        simp only [Prod.mk.injEq] at h
        rw [bitsN_small x (by omega)] at hb
        have hl := runBits_len x
        refine .inl ⟨h.2.1.symm, x, h.1.symm, by omega, by omega, ?_⟩
        rw [← h.2.2]
        exact hb
      · rw [if_neg h2] at h
        obtain rfl : x = 3 := by omega
        rcases ih (8 * l.length - (t + 2)) (by omega) _ (t + 2) rfl hc h with ⟨he, m, hv, hm, ht', hbits⟩ | h'
        · refine .inl ⟨he, m + 3, by omega, hm, by simp [runBits]; omega, ?_⟩
          rw [← hbits, ← hb, show ((3 : Nat) : Int) = 3 from rfl, bitsN_three]
          simp [runBits]
        · exact .inr h'
  · rw [dif_neg hc] at h
    simp only [Prod.mk.injEq] at h
    exact .inr ⟨h.1.symm, .inl h.2.1.symm⟩
theorem takeR_ok {l : List Int} {most : Int} {v e : Int} {t' : Nat} (h : takeR l most 0 = (v, e, t')) (h0 : 0 ≤ most) (h1 : most ≤ 255) :
    (e = 0 ∧ ∃ m : Nat, v = m ∧ (m : Int) ≤ most ∧ t' = (runBits m).length ∧ runBits m = (bitsOf l).take t') ∨ (v = 0 ∧ (e = 3 ∨ e = 13)) := by
  unfold takeR at h
  rw [if_pos ⟨h0, h1⟩] at h
  rcases tkR_ok l most _ 0 0 rfl (by omega) h with ⟨he, m, hv, hm, ht, hb⟩ | h'
  · exact .inl ⟨he, m, by omega, by omega, by omega, by simpa using hb⟩
  · exact .inr h'
set_option maxRecDepth 20000 in
set_option maxHeartbeats 4000000 in
theorem ruone_walk (a : Option Addr) (len cap : Nat) (zs : List Int) (top : Int) (w : World) (h : IsRow .u8 w a len cap zs) (y : len * 1 ≤ 140737488351232) (h1 : (Lit.int .u8 top).wf = true) :
    Calls Try.prog 6 #[.slice a len cap, .int .u8 top] w fun e w' => e = .returned (.bool true) ∧ Below w.heap.size w w' := by
  obtain ⟨l, rfl, hr, _, hwf⟩ := h.reads (by omega)
  have h1 := bounds_u8 h1
  have R0 := Lib.hid hr
  have BL := Lib.hid (show ∀ x, x ∈ l → 0 ≤ x ∧ x ≤ 255 from wf_u8 hwf)
  have NL := Lib.hid h.nil
  have H := Lib.hid (Hold.start w)
  clear h hr hwf y
  have wt : IntKind.i64.wrap top = top := IntWalk.i64_in _ (by omega)
  by_cases hs : l.length ≤ 200
  · obtain ⟨v, e, t2, hbk⟩ : ∃ v e t2, takeR l top 0 = (v, e, t2) := ⟨_, _, _, rfl⟩
    have HT2 := Lib.hid (takeR_le hbk (by omega))
    have HTAKE := Lib.hid (fun W g os (h : Hold w W (rdO g l 0 :: os)) => hTake_ru h (by omega) (by omega) BL.out hbk)
    rcases takeR_ok hbk h1.1 h1.2 with ⟨rfl, m, rfl, hle, ht, hbits⟩ | ⟨rfl, he⟩
    · have HPUT := Lib.hid (fun W g os (h : Hold w W (wrO g [] :: os)) => hPut_ru h (by simp) m (by omega))
      rw [hbits] at HPUT
      simp only [List.nil_append] at HPUT
      have htl : ((bitsOf l).take t2).length = t2 := by rw [List.length_take, bitsOf_len]; have := HT2.out; omega
      have HTL2 := Lib.hid htl
      have HTL3 := Lib.hid (show ((bitsOf l).take t2).length ≤ 1000000000000 by have := HT2.out; omega)
      have BO := Lib.hid (bytesOf'_ok ((bitsOf l).take t2))
      have w1_ : IntKind.i64.wrap (8 * (l.length : Int)) = 8 * (l.length : Int) := IntWalk.i64_in _ (by omega)
      have w2_ : IntKind.i64.wrap (8 * (l.length : Int) - (8 * (l.length : Int) - (t2 : Int))) = (t2 : Int) := by have := HT2.out; rw [IntWalk.i64_in _ (by omega)]; omega
      have w3_ : 8 * (l.length : Int) - (8 * (l.length : Int) - (t2 : Int)) = (t2 : Int) := by omega
      have w4_ : IntKind.i64.wrap (t2 : Int) = (t2 : Int) := by have := HT2.out; exact IntWalk.i64_in _ (by omega)
      have w5_ : ¬ ((t2 : Int) < 0) := by omega
      clear hbk ht hbits htl
      go_enter Try.func6, Try.ntmps6
      go_wp2_with (first
        | (go_at_call 8; (with_reducible refine (awake14 _).mono ?_); rintro e w1 ⟨rfl, hb⟩; replace H := Lib.hid (H.out.below hb); clear hb)
        | (go_at_call 17; (with_reducible refine (hNew_r H.out rfl (R0.out.below H.out.B) (by omega) NL.out).mono ?_); rintro e w1 ⟨g, rfl, h, _⟩; replace H := Lib.hid h; clear h)
        | (go_at_call 9; (with_reducible refine (hNew_w H.out).mono ?_); rintro e w1 ⟨g2, rfl, h⟩; replace H := Lib.hid h; clear h)
        | (go_at_call 19; (with_reducible refine (HTAKE.out _ _ _ H.out.swap).mono ?_); rintro e w1 ⟨rfl, h⟩; replace H := Lib.hid h.swap; clear h HTAKE)
        | (go_at_call 11; (with_reducible refine (HPUT.out _ _ _ H.out).mono ?_); rintro e w1 ⟨rfl, h⟩; replace H := Lib.hid h; clear h HPUT)
        | (go_at_call 21; (with_reducible refine (hLeft_r H.out.swap HT2.out (by omega)).mono ?_); rintro e w1 ⟨rfl, h⟩; replace H := Lib.hid h.swap; clear h)
        | (go_at_call 13; (with_reducible refine (hBits_w H.out).mono ?_); rintro e w1 ⟨rfl, rfl⟩; rw [HTL2.out])
        | (go_at_call 23; (with_reducible refine (bits_any _ _ l _ _ rfl (R0.out.below H.out.B) BL.out (by omega)).mono ?_); rintro e w1 ⟨v_, rfl, ho, hb⟩; obtain ⟨A1, c1, rfl, hle, hr⟩ := own_reads_of_le (d := false) ho; have RX := Lib.hid hr; have SP := slice_pre A1 (8 * l.length) c1 t2 (by have := HT2.out; omega); replace H := Lib.hid (H.out.below hb); clear ho hb hr hle))
      replace H := Lib.hid (Hold.drew H.out)
      replace RX := Lib.hid (RX.out.below (Below.refl _ _).drew)
      go_region_held3 (fun _ => True) (exact trivial) (first
        | (go_at_call 15; (with_reducible refine (hBytes_w H.out HTL3.out).mono ?_); rintro e w1 ⟨A2, c2, rfl, hr, _, _, hb⟩; replace H := Lib.hid (H.out.below hb); have P1 := Lib.hid hr; (try replace RX := Lib.hid (RX.out.below hb)); (try replace P2 := Lib.hid (P2.out.below hb)); clear hb hr)
        | (go_at_call 16; (with_reducible refine (bytes_any _ _ ((bitsOf l).take t2) _ _ HTL2.out (readsB_take RX.out t2 HT2.out) (by have := HT2.out; omega)).mono ?_); rintro e w1 ⟨v_, rfl, ho, hb⟩; obtain ⟨A3, c3, rfl, hle, hr⟩ := own_reads' ho; replace H := Lib.hid (H.out.below hb); have P2 := Lib.hid hr; (try replace P1 := Lib.hid (P1.out.below hb)); clear hb hr ho hle)
        | (go_at_call 14; (with_reducible refine (same_any _ _ _ _ _ _ _ _ _ P1.out P2.out BO.out BO.out).mono ?_); rintro e w1 ⟨rfl, rfl⟩; rw [eqB_self]))
      all_goals go_wp2
      all_goals go_ret
      all_goals exact ⟨rfl, H.out.B⟩
    · clear hbk
      rcases he with rfl | rfl
      all_goals go_enter Try.func6, Try.ntmps6
      all_goals go_wp2_with (first
        | (go_at_call 8; (with_reducible refine (awake14 _).mono ?_); rintro e w1 ⟨rfl, hb⟩; replace H := Lib.hid (H.out.below hb); clear hb)
        | (go_at_call 17; (with_reducible refine (hNew_r H.out rfl (R0.out.below H.out.B) (by omega) NL.out).mono ?_); rintro e w1 ⟨g, rfl, h, _⟩; replace H := Lib.hid h; clear h)
        | (go_at_call 9; (with_reducible refine (hNew_w H.out).mono ?_); rintro e w1 ⟨g2, rfl, h⟩; replace H := Lib.hid h; clear h)
        | (go_at_call 19; (with_reducible refine (HTAKE.out _ _ _ H.out.swap).mono ?_); rintro e w1 ⟨rfl, h⟩; replace H := Lib.hid h.swap; clear h HTAKE))
      all_goals go_ret
      all_goals exact ⟨rfl, H.out.B⟩
  · go_enter Try.func6, Try.ntmps6
    go_wp2_with (go_at_call 8; (with_reducible refine (awake14 _).mono ?_); rintro e w1 ⟨rfl, hb⟩; replace H := Lib.hid (H.out.below hb); clear hb)
    go_ret
    exact ⟨rfl, H.out.B⟩
end Go.Proofs.Ytokhhnmnhjbnbaa
