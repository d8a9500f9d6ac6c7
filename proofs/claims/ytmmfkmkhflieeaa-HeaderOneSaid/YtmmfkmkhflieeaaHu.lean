/- The layer header's laws: HeaderOne. -/
import Derived.Test.YtmmfkmkhflieeaaHh
namespace Go.Proofs.Ytmmfkmkhflieeaa
open Go.RowKit Go.Proofs.YtmmfkmkhflieeaaW.PrintWords Go.Proofs.YtmmfkmkhflieeaaW.PrintLast Go.Proofs.YtmmfkmkhflieeaaW.PrintMore PPr
attribute [local go_sem] max2_int min2_int max_two min_two max_three min_three max_four min_four
set_option linter.unusedSimpArgs false
set_option linter.unusedVariables false
theorem slice_preB (A : Option Addr) (n c k : Nat) (hk : k ≤ c) (W : World) :
    Sem.run Try.prog (Instr.slice 27 (.slice A n c) none (some (.int .i64 (k : Int))) none) W = .ok (.slice A k c) W := by
  have h2 : (k : Int) ≤ (c : Int) := by omega
  have h3 : 0 ≤ (k : Int) := by omega
  cases A <;> simp [go_sem, Instr.slice, h2, h3, hk]
set_option maxRecDepth 20000 in
set_option maxHeartbeats 4000000 in
theorem hdone_walk (a : Option Addr) (len cap : Nat) (zs : List Int) (log : Int) (w : World) (h : IsRow .u8 w a len cap zs) (y : len * 1 ≤ 140737488351232) (h1 : (Lit.int .u8 log).wf = true) :
    Calls Try.prog 6 #[.slice a len cap, .int .u8 log] w fun e w' => e = .returned (.bool true) ∧ Below w.heap.size w w' := by
  obtain ⟨l, rfl, hr, _, hwf⟩ := h.reads (by omega)
  have h1 := bounds_u8 h1
  have R0 := Lib.hid hr
  have BL := Lib.hid (show ∀ x, x ∈ l → 0 ≤ x ∧ x ≤ 255 from wf_u8 hwf)
  have NL := Lib.hid h.nil
  have H := Lib.hid (Hold.start w)
  clear h hr hwf y
  obtain ⟨k, hk⟩ : ∃ k : Nat, 1 + log % 12 = (k : Int) := ⟨(1 + log % 12).toNat, by have := Int.emod_nonneg log (show (12 : Int) ≠ 0 by decide); omega⟩
  have k0 : 1 ≤ k := by have := Int.emod_nonneg log (show (12 : Int) ≠ 0 by decide); omega
  have k1 : k ≤ 12 := by have := Int.emod_lt_of_pos log (show (0 : Int) < 12 by decide); omega
  have m1 : log.tmod 12 = log % 12 := Int.tmod_eq_emod_of_nonneg h1.1
  obtain ⟨x, hx⟩ : ∃ x, log % 12 = x := ⟨_, rfl⟩
  rw [hx] at hk m1
  have m2 : IntKind.u8.wrap x = x := by show x % 256 = x; omega
  have m3 : IntKind.i64.wrap x = x := IntWalk.i64_in _ (by omega)
  have m4 : IntKind.i64.wrap (1 + x) = (k : Int) := by rw [hk]; exact IntWalk.i64_in _ (by omega)
  have m5 : IntKind.i64.wrap (k : Int) = (k : Int) := IntWalk.i64_in _ (by omega)
  by_cases hs : l.length ≤ 600
  · obtain ⟨q, er, t, hR⟩ : ∃ q er t, hdk l (List.replicate 256 0) (p2 k) false 0 0 = (q, er, t) := ⟨_, _, _, rfl⟩
    rcases hdk_log l k k0 k1 hR with ⟨rfl, hN, hbits, htl⟩ | ⟨rfl, he⟩
    · have HTK := Lib.hid (fun W g os h => htake_ok (w0 := w) (W := W) (os := os) g l 0 k h (Nat.zero_le _) (by omega) BL.out k0 k1 hR)
      have HPU := Lib.hid (fun (w W : World) g os A c hc h HQ => hPut_256 (w0 := w) (W := W) (g := g) (bs := []) (os := os) h (by simp) (A := A) (c := c) hN hc HQ)
      have HNR := Lib.hid (fun A c w hq hc => nright_at hN A c w hq hc)
      rw [hbits] at HPU
      simp only [List.nil_append] at HPU
      have htk : ((bitsOf l).take t).length = t := by rw [List.length_take, bitsOf_len]; omega
      have HTT := Lib.hid htl
      have HTL2 := Lib.hid htk
      have HTL3 := Lib.hid (show ((bitsOf l).take t).length ≤ 1000000000000 by omega)
      have BO := Lib.hid (bytesOf'_ok ((bitsOf l).take t))
      have w1_ : IntKind.i64.wrap (8 * (l.length : Int)) = 8 * (l.length : Int) := IntWalk.i64_in _ (by omega)
      have w2_ : IntKind.i64.wrap (8 * (l.length : Int) - (8 * (l.length : Int) - (t : Int))) = (t : Int) := by rw [IntWalk.i64_in _ (by omega)]; omega
      have w3_ : 8 * (l.length : Int) - (8 * (l.length : Int) - (t : Int)) = (t : Int) := by omega
      have w4_ : IntKind.i64.wrap (t : Int) = (t : Int) := IntWalk.i64_in _ (by omega)
      have w5_ : ¬ ((t : Int) < 0) := by omega
      have HQL := Lib.hid (((rightB_iff q).1 hN.R).1)
      clear hR hN hbits htl htk
      go_enter Try.func6, Try.ntmps6
      go_wp2_with (first
        | (go_at_call 8; (with_reducible refine (awake15 _).mono ?_); rintro e w1 ⟨rfl, hb⟩; replace H := Lib.hid (H.out.below hb); clear hb)
        | (go_at_call 17; (with_reducible refine (hNew_r H.out rfl (R0.out.below H.out.B) (by omega) NL.out).mono ?_); rintro e w1 ⟨g, rfl, h, _⟩; replace H := Lib.hid h; clear h)
        | (go_at_call 9; (with_reducible refine (hNew_w H.out).mono ?_); rintro e w1 ⟨g2, rfl, h⟩; replace H := Lib.hid h.swap; clear h)
        | (go_at_call 19; (with_reducible refine (HTK.out _ _ _ H.out).mono ?_); rintro e w1 ⟨g3, c3, rfl, hc3, _, h⟩; replace H := Lib.hid h.third; clear h HTK)
        | (go_at_call 10; (with_reducible refine (HPU.out _ _ _ _ _ _ hc3 H.out (fun W bs h => rowO_C h.swap)).mono ?_); rintro e w1 ⟨rfl, h⟩; replace H := Lib.hid h.third; clear h HPU)
        | (go_at_call 22; (with_reducible refine (hLeft_r H.out HTT.out (by omega)).mono ?_); rintro e w1 ⟨rfl, h⟩; replace H := Lib.hid h.swap; clear h)
        | (go_at_call 12; (with_reducible refine (hBits_w H.out).mono ?_); rintro e w1 ⟨rfl, rfl⟩; rw [HTL2.out])
        | (go_at_call 25; (with_reducible refine (HNR.out _ _ _ (rowO_C H.out.third) hc3).mono ?_); rintro e w1 ⟨rfl, nd, rfl⟩; replace H := Lib.hid (Hold.drewN H.out nd))
        | (go_at_call 26; (with_reducible refine (bits_any _ _ l _ _ rfl (R0.out.below H.out.B) BL.out (by omega)).mono ?_); rintro e w1 ⟨v_, rfl, ho, hb⟩; obtain ⟨A1, c1, rfl, hle, hr⟩ := own_reads_of_le (d := false) ho; have RX := Lib.hid hr; have SP := slice_preB A1 (8 * l.length) c1 t (by have := HTT.out; omega); replace H := Lib.hid (H.out.below hb); clear ho hb hr hle))
      replace H := Lib.hid (Hold.drew H.out)
      replace RX := Lib.hid (RX.out.below (Below.refl _ _).drew)
      go_region_held3 (fun _ => True) (exact trivial) (first
        | (go_at_call 14; (with_reducible refine (hBytes_w H.out HTL3.out).mono ?_); rintro e w1 ⟨A2, c2, rfl, hr, _, _, hb⟩; replace H := Lib.hid (H.out.below hb); have P1 := Lib.hid hr; (try replace RX := Lib.hid (RX.out.below hb)); (try replace P2 := Lib.hid (P2.out.below hb)); clear hb hr)
        | (go_at_call 15; (with_reducible refine (bytes_any _ _ ((bitsOf l).take t) _ _ HTL2.out (readsB_take RX.out t HTT.out) (by have := HTT.out; omega)).mono ?_); rintro e w1 ⟨v_, rfl, ho, hb⟩; obtain ⟨A3, c4, rfl, hle, hr⟩ := own_reads' ho; replace H := Lib.hid (H.out.below hb); have P2 := Lib.hid hr; (try replace P1 := Lib.hid (P1.out.below hb)); clear hb hr ho hle)
        | (go_at_call 13; (with_reducible refine (same_any _ _ _ _ _ _ _ _ _ P1.out P2.out BO.out BO.out).mono ?_); rintro e w1 ⟨rfl, rfl⟩; rw [eqB_self]))
      all_goals go_wp2
      all_goals go_ret
      all_goals exact ⟨rfl, H.out.B⟩
    · have hne : er ≠ 0 := by omega
      have HTK := Lib.hid (fun W g os h => htake_err (w0 := w) (W := W) (os := os) g l 0 k h (Nat.zero_le _) (by omega) BL.out k0 k1 hne hR)
      clear hR hne
      rcases he with rfl | rfl
      all_goals go_enter Try.func6, Try.ntmps6
      all_goals go_wp2_with (first
        | (go_at_call 8; (with_reducible refine (awake15 _).mono ?_); rintro e w1 ⟨rfl, hb⟩; replace H := Lib.hid (H.out.below hb); clear hb)
        | (go_at_call 17; (with_reducible refine (hNew_r H.out rfl (R0.out.below H.out.B) (by omega) NL.out).mono ?_); rintro e w1 ⟨g, rfl, h, _⟩; replace H := Lib.hid h; clear h)
        | (go_at_call 9; (with_reducible refine (hNew_w H.out).mono ?_); rintro e w1 ⟨g2, rfl, h⟩; replace H := Lib.hid h.swap; clear h)
        | (go_at_call 19; (with_reducible refine (HTK.out _ _ _ H.out).mono ?_); rintro e w1 ⟨rfl, h⟩; replace H := Lib.hid h; clear h HTK))
      all_goals go_ret
      all_goals exact ⟨rfl, H.out.B⟩
  · go_enter Try.func6, Try.ntmps6
    go_wp2_with (go_at_call 8; (with_reducible refine (awake15 _).mono ?_); rintro e w1 ⟨rfl, hb⟩; replace H := Lib.hid (H.out.below hb); clear hb)
    go_ret
    exact ⟨rfl, H.out.B⟩
end Go.Proofs.Ytmmfkmkhflieeaa
