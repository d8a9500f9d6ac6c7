/- The layer budget's laws: the example, BudgetTakes, BudgetRoom. -/
import Derived.Test.YtbcpngaebijddaaHl
namespace Go.Proofs.Ytbcpngaebijddaa
open Go.RowKit Go.Proofs.YtbcpngaebijddaaW.PrintWords Go.Proofs.YtbcpngaebijddaaW.PrintLast Go.Proofs.YtbcpngaebijddaaW.PrintMore
attribute [local go_sem] max2_int min2_int max_two min_two max_three min_three max_four min_four
set_option linter.unusedSimpArgs false
set_option linter.unusedVariables false
theorem str5 : strOfNums [5] = ⟨#[5]⟩ := by rfl
set_option maxHeartbeats 2000000 in
theorem awake13 (w : World) :
    Calls Try.prog 8 #[] w fun e w' => e = .returned (.bool true) ∧ Below w.heap.size w w' := by
  have H := Lib.hid (Hold.start w)
  have E1 := Lib.hid (show bitsN 5 (widN 9) = [true, false, true, false] by decide)
  have E2 := Lib.hid (show butk (8 * [5].length) 0 (numAt [5] 0 (widN 4)) 4 = (0, 13, 3) by decide)
  have E3 := Lib.hid (show bytesOf' [true, false, true, false] = [5] by decide)
  have E4 := Lib.hid (show costZ 5 9 = 4 by decide)
  have OK := Lib.hid (show ∀ x, x ∈ [5] → (0 : Int) ≤ x ∧ x ≤ 255 by decide)
  go_enter Try.func8, Try.ntmps8
  go_wp2_with (first
    | (go_at_call 9; (with_reducible refine (hNew_w H.out).mono ?_); rintro e w1 ⟨g, rfl, h⟩; replace H := Lib.hid h; clear h)
    | (go_at_call 12; (refine (hPut_bu H.out (by decide) (by decide)).mono ?_); rintro e w1 ⟨rfl, h⟩; rw [E1.out, List.nil_append] at h; replace H := Lib.hid h; clear h)
    | (go_at_call 18; (refine (hNew_r (l := [5]) (H.out.below ((Below.refl _ _).alloc (Nat.le_refl _) _)) rfl (lit_reads _ .u8 _ [5] (by simp)) (by decide) (by intro h; cases h)).mono ?_); rintro e w1 ⟨g2, rfl, h, _⟩; replace H := Lib.hid h; clear h)
    | (go_at_call 20; (refine (hTake_bu H.out (by decide) (by decide) OK.out (by decide) (by decide) E2.out).mono ?_); rintro e w1 ⟨rfl, h⟩; replace H := Lib.hid h.swap; clear h)
    | (go_at_call 14; (with_reducible refine (hBits_w H.out).mono ?_); rintro e w1 ⟨rfl, rfl⟩)
    | (go_at_call 16; (with_reducible refine (hBytes_w H.out (by decide)).mono ?_); rintro e w1 ⟨A1, c1, rfl, hr, _, _, hb⟩; rw [E3.out] at hr ⊢; replace H := Lib.hid (H.out.below hb).swap; have es := string_of_reads (P := Try.prog) (src := 35) (dst := 9) (c := c1) Try.underlying35 Try.underlying5 Try.underlying9 (show ReadsInt _ .u8 A1 1 [5] from hr); rw [str5] at es; clear hb hr)
    | (go_at_call 22; (with_reducible refine (hLeft_r H.out (by decide) (by decide)).mono ?_); rintro e w1 ⟨rfl, h⟩; replace H := Lib.hid h; clear h)
    | (go_at_call 13; (refine (cost_any 5 9 _ (by decide)).mono ?_); rintro e w1 ⟨rfl, hb⟩; rw [E4.out]; replace H := Lib.hid (H.out.below hb); clear hb))
  go_ret
  exact ⟨rfl, H.out.B⟩
set_option maxHeartbeats 4000000 in
theorem butakes_walk (a : Option Addr) (len cap : Nat) (zs : List Int) (b : Option Addr) (len2 cap2 : Nat) (zs2 : List Int) (w : World) (h : IsRow .u8 w a len cap zs) (y : len * 1 ≤ 140737488351232) (h' : IsRow .i64 w b len2 cap2 zs2) (y' : len2 * 8 ≤ 140737488351232) :
    Calls Try.prog 4 #[.slice a len cap, .slice b len2 cap2] w fun e w' => e = .returned (.bool true) ∧ Below w.heap.size w w' := by
  obtain ⟨l, rfl, hr, _, hwf⟩ := h.reads (by omega)
  obtain ⟨m, rfl, hq, _, hwf2⟩ := h'.reads (by omega)
  have R0 := Lib.hid hr
  have R1 := Lib.hid hq
  have BL := Lib.hid (show ∀ x, x ∈ l → 0 ≤ x ∧ x ≤ 255 from wf_u8 hwf)
  have BM := Lib.hid (wf_i64 hwf2)
  have NL := Lib.hid h.nil
  have H := Lib.hid (Hold.start w)
  clear h h' hr hq hwf hwf2 y y'
  by_cases hs : l.length ≤ 200
  · by_cases hs2 : m.length ≤ 40
    · go_enter Try.func4, Try.ntmps4
      go_wp2_with (first
        | (go_at_call 8; (with_reducible refine (awake13 _).mono ?_); rintro e w1 ⟨rfl, hb⟩; replace H := Lib.hid (H.out.below hb); clear hb)
        | (go_at_call 18; (with_reducible refine (hNew_r H.out rfl (R0.out.below H.out.B) (by omega) NL.out).mono ?_); rintro e w1 ⟨g, rfl, h, _⟩; replace H := Lib.hid h; clear h)
        | (go_at_call 19; (with_reducible refine (hNew_q H.out rfl (R0.out.below H.out.B) BL.out (by omega)).mono ?_); rintro e w1 ⟨g2, rfl, h, _⟩; replace H := Lib.hid h; clear h))
      go_loopg [8] m.length (fun k q wr => ∃ i t : Nat, i ≤ m.length ∧ k = m.length - i ∧ q = .int .i64 i ∧ t ≤ 8 * l.length ∧ Hid (Hold w wr [qrO g2 (bitsOf l) t, rdO g l t]))
      case atStart => exact ⟨0, 0, by omega, rfl, rfl, by omega, H⟩
      case round =>
        obtain ⟨i, t, hi, hk, rfl, ht, hT⟩ := hrel
        have HK := Lib.hid hk
        have HT := Lib.hid ht
        clear H
        have H := hT
        clear hk ht hT
        by_cases hi2 : i < m.length
        · have i1 : (i : Int) < (m.length : Int) := by omega
          have hR := R1.out.below H.out.B
          obtain ⟨ad, hA, hcell⟩ := reads_cell hR i hi2
          have hX : (-9223372036854775808 : Int) ≤ m.getD i 0 ∧ m.getD i 0 ≤ 9223372036854775807 := by
            rw [List.getD_eq_getElem?_getD, List.getElem?_eq_getElem hi2]; exact BM.out _ (List.getElem_mem hi2)
          subst hA
          clear hR
          have HCL := Lib.hid (fun wr hb => reads_some R1.out i hi2 wr hb)
          generalize m.getD i 0 = X at hcell hX HCL
          obtain ⟨v, e, t2, hbk⟩ : ∃ v e t2, butk (8 * l.length) t (numAt l t (widN X)) X = (v, e, t2) := ⟨_, _, _, rfl⟩
          have HT2 := Lib.hid (butk_le hbk HT.out)
          have HBK := Lib.hid hbk
          clear hbk
          go_wp2_with (first
            | (go_at_call 20; (with_reducible refine (hTake_bu H.out.swap HT.out (by omega) BL.out hX.1 hX.2 HBK.out).mono ?_); rintro e w1 ⟨rfl, h⟩; replace H := Lib.hid h.swap; clear h hcell; have hcell := HCL.out _ H.out.B)
            | (go_at_call 21; (with_reducible refine (hTake_qbu H.out HT.out hX.1 hX.2 HBK.out).mono ?_); rintro e w1 ⟨rfl, h⟩; replace H := Lib.hid h; clear h)
            | (go_at_call 22; (with_reducible refine (hLeft_r H.out.swap HT2.out (by omega)).mono ?_); rintro e w1 ⟨rfl, h⟩; replace H := Lib.hid h.swap; clear h)
            | (go_at_call 23; (with_reducible refine (hLeft_q H.out HT2.out).mono ?_); rintro e w1 ⟨rfl, h⟩; replace H := Lib.hid h; clear h))
          go_roundg (m.length - (i + 1))
          case measure => have := HK.out; omega
          case rel => exact ⟨i + 1, t2, by omega, rfl, by go_num, HT2.out, H⟩
        · have i1 : ¬ (i : Int) < (m.length : Int) := by omega
          go_wp2_with (first
            | (go_at_call 22; (with_reducible refine (hLeft_r H.out.swap HT.out (by omega)).mono ?_); rintro e w1 ⟨rfl, h⟩; replace H := Lib.hid h.swap; clear h)
            | (go_at_call 23; (with_reducible refine (hLeft_q H.out HT.out).mono ?_); rintro e w1 ⟨rfl, h⟩; replace H := Lib.hid h; clear h))
          go_ret
          exact ⟨rfl, H.out.B⟩
    · go_enter Try.func4, Try.ntmps4
      go_wp2_with (go_at_call 8; (with_reducible refine (awake13 _).mono ?_); rintro e w1 ⟨rfl, hb⟩; replace H := Lib.hid (H.out.below hb); clear hb)
      go_ret
      exact ⟨rfl, H.out.B⟩
  · go_enter Try.func4, Try.ntmps4
    go_wp2_with (go_at_call 8; (with_reducible refine (awake13 _).mono ?_); rintro e w1 ⟨rfl, hb⟩; replace H := Lib.hid (H.out.below hb); clear hb)
    go_ret
    exact ⟨rfl, H.out.B⟩
set_option maxHeartbeats 1000000 in
theorem buroom_walk (left v : Int) (w : World) (h0 : (Lit.int .u16 left).wf = true) (h1 : (Lit.int .u16 v).wf = true) :
    Calls Try.prog 5 #[.int .u16 left, .int .u16 v] w fun e w' => e = .returned (.bool true) ∧ Below w.heap.size w w' := by
  have h0 := bounds_u16 h0
  have h1 := bounds_u16 h1
  have H := Lib.hid (Hold.start w)
  have q0 : left.tmod 4096 = left % 4096 := Int.tmod_eq_emod_of_nonneg h0.1
  have wl : IntKind.i64.wrap left = left := IntWalk.i64_in _ (by omega)
  have wv : IntKind.i64.wrap v = v := IntWalk.i64_in _ (by omega)
  obtain ⟨n, hn⟩ : ∃ n, 1 + left % 4096 = n := ⟨_, rfl⟩
  have n0 : 1 ≤ n := by omega
  have n1 : n ≤ 4096 := by omega
  have wm : IntKind.i64.wrap (left % 4096) = left % 4096 := IntWalk.i64_in _ (by omega)
  have wn : IntKind.i64.wrap n = n := IntWalk.i64_in _ (by omega)
  have wn1 : IntKind.i64.wrap (n + 1) = n + 1 := IntWalk.i64_in _ (by omega)
  have hnz : ¬ (n + 1 = 0) := by omega
  have q1 : v.tmod (n + 1) = v % (n + 1) := Int.tmod_eq_emod_of_nonneg h1.1
  obtain ⟨x, hx⟩ : ∃ x, v % (n + 1) = x := ⟨_, rfl⟩
  have x0 : 0 ≤ x := by rw [← hx]; exact Int.emod_nonneg _ (by omega)
  have x1 : x < n + 1 := by rw [← hx]; exact Int.emod_lt_of_pos _ (by omega)
  have wx : IntKind.i64.wrap x = x := IntWalk.i64_in _ (by omega)
  obtain ⟨b1, b2, b3, b4, b5⟩ := widN_bd n0 n1
  have c1 : costZ x n = wid n := by unfold costZ; rw [if_pos (show canB x n from ⟨n0, n1, x0, by omega⟩)]
  have c2 : costZ n n = wid n := by unfold costZ; rw [if_pos (show canB n n from ⟨n0, n1, by omega, by omega⟩)]
  have c3 : costZ (n + 1) n = 0 := by unfold costZ; rw [if_neg (fun h : canB (n + 1) n => by have := h.2.2.2; omega)]
  obtain ⟨M, hM⟩ : ∃ M, widN n = M + 1 := ⟨widN n - 1, by omega⟩
  rw [b1, hM] at c1 c2
  rw [hM] at b1 b3 b4 b5
  rw [Nat.add_sub_cancel] at b5
  have C1 := Lib.hid (fun w => cost_any x n w (by omega))
  have C2 := Lib.hid (fun w => cost_any n n w (by omega))
  have C3 := Lib.hid (fun w => cost_any (n + 1) n w (by omega))
  have C4 := Lib.hid (fun w => width_any n w (by omega) (by omega))
  rw [c1] at C1
  rw [c2] at C2
  rw [c3] at C3
  rw [b1] at C4
  have hp := p2_mono (show M ≤ 12 by omega)
  rw [show p2 12 = 4096 from by decide] at hp
  have hp0 := p2_pos M
  have hps := p2_succ M
  have s1 : IntKind.i64.wrap (2 ^ (M + 1)) = p2 (M + 1) := by rw [pow_p2]; exact IntWalk.i64_in _ (by omega)
  have s2 : IntKind.i64.wrap (2 ^ M) = p2 M := by rw [pow_p2]; exact IntWalk.i64_in _ (by omega)
  generalize p2 (M + 1) = P1 at *
  generalize p2 M = P0 at *
  clear c1 c2 c3 hM b1
  go_enter Try.func5, Try.ntmps5
  go_wp2_with (first
    | (go_at_call 8; (with_reducible refine (awake13 _).mono ?_); rintro e w1 ⟨rfl, hb⟩; replace H := Lib.hid (H.out.below hb); clear hb)
    | (go_at_call 13; (with_reducible refine (C1.out _).mono ?_); rintro e w1 ⟨rfl, hb⟩; replace H := Lib.hid (H.out.below hb); clear hb)
    | (go_at_call 13; (with_reducible refine (C2.out _).mono ?_); rintro e w1 ⟨rfl, hb⟩; replace H := Lib.hid (H.out.below hb); clear hb)
    | (go_at_call 13; (with_reducible refine (C3.out _).mono ?_); rintro e w1 ⟨rfl, hb⟩; replace H := Lib.hid (H.out.below hb); clear hb)
    | (go_at_call 24; (with_reducible refine (C4.out _).mono ?_); rintro e w1 ⟨rfl, rfl⟩))
  go_ret
  exact ⟨rfl, H.out.B⟩
theorem slice_pre (A : Option Addr) (n c k : Nat) (hk : k ≤ c) (W : World) :
    Sem.run Try.prog (Instr.slice 26 (.slice A n c) none (some (.int .i64 (k : Int))) none) W = .ok (.slice A k c) W := by
  have h2 : (k : Int) ≤ (c : Int) := by omega
  have h3 : 0 ≤ (k : Int) := by omega
  cases A <;> simp [go_sem, Instr.slice, h2, h3, hk]
set_option maxRecDepth 20000 in
set_option maxHeartbeats 4000000 in
theorem buone_walk (a : Option Addr) (len cap : Nat) (zs : List Int) (b : Option Addr) (len2 cap2 : Nat) (zs2 : List Int) (w : World) (h : IsRow .u8 w a len cap zs) (y : len * 1 ≤ 140737488351232) (h' : IsRow .u16 w b len2 cap2 zs2) (y' : len2 * 2 ≤ 140737488351232) :
    Calls Try.prog 6 #[.slice a len cap, .slice b len2 cap2] w fun e w' => e = .returned (.bool true) ∧ Below w.heap.size w w' := by
  obtain ⟨l, rfl, hr, _, hwf⟩ := h.reads (by omega)
  obtain ⟨m, rfl, hq, _, hwf2⟩ := h'.reads (by omega)
  have R0 := Lib.hid hr
  have R1 := Lib.hid hq
  have BL := Lib.hid (show ∀ x, x ∈ l → 0 ≤ x ∧ x ≤ 255 from wf_u8 hwf)
  have BM := Lib.hid (show ∀ x, x ∈ m → 0 ≤ x ∧ x ≤ 65535 from fun x hx => bounds_u16 (hwf2 x hx))
  have NL := Lib.hid h.nil
  have H := Lib.hid (Hold.start w)
  clear h h' hr hq hwf hwf2 y y'
  by_cases hs : l.length ≤ 200
  · by_cases hs2 : m.length ≤ 40
    · go_enter Try.func6, Try.ntmps6
      go_wp2_with (first
        | (go_at_call 8; (with_reducible refine (awake13 _).mono ?_); rintro e w1 ⟨rfl, hb⟩; replace H := Lib.hid (H.out.below hb); clear hb)
        | (go_at_call 18; (with_reducible refine (hNew_r H.out rfl (R0.out.below H.out.B) (by omega) NL.out).mono ?_); rintro e w1 ⟨g, rfl, h, _⟩; replace H := Lib.hid h; clear h)
        | (go_at_call 9; (with_reducible refine (hNew_w H.out).mono ?_); rintro e w1 ⟨g2, rfl, h⟩; replace H := Lib.hid h; clear h))
      go_loopg [8, 9] m.length (fun k n q wr => ∃ i t : Nat, i ≤ m.length ∧ k = m.length - i ∧ n = .int .i64 t ∧ q = .int .i64 i ∧ t ≤ 8 * l.length ∧ Hid (Hold w wr [wrO g2 ((bitsOf l).take t), rdO g l t]))
      case atStart => exact ⟨0, 0, by omega, rfl, rfl, rfl, by omega, H⟩
      case round =>
        obtain ⟨i, t, hi, hk, rfl, rfl, ht, hT⟩ := hrel
        have HK := Lib.hid hk
        have HT := Lib.hid ht
        clear H
        have H := hT
        clear hk hT
        by_cases hi2 : i < m.length
        · have i1 : (i : Int) < (m.length : Int) := by omega
          have hR := R1.out.below H.out.B
          obtain ⟨ad, hA, hcell⟩ := reads_cell hR i hi2
          have hX : (0 : Int) ≤ m.getD i 0 ∧ m.getD i 0 ≤ 65535 := by
            rw [List.getD_eq_getElem?_getD, List.getElem?_eq_getElem hi2]; exact BM.out _ (List.getElem_mem hi2)
          subst hA
          clear hR
          generalize m.getD i 0 = X at hcell hX
          have q0 : X.tmod 4096 = X % 4096 := Int.tmod_eq_emod_of_nonneg hX.1
          have wl : IntKind.i64.wrap X = X := IntWalk.i64_in _ (by omega)
          have wm : IntKind.i64.wrap (X % 4096) = X % 4096 := IntWalk.i64_in _ (by omega)
          obtain ⟨L, hL⟩ : ∃ L, 1 + X % 4096 = L := ⟨_, rfl⟩
          have l0 : 1 ≤ L := by omega
          have l1 : L ≤ 4096 := by omega
          have wL : IntKind.i64.wrap L = L := IntWalk.i64_in _ (by omega)
          obtain ⟨b1, b2, b3, _, _⟩ := widN_bd l0 l1
          have HWD := Lib.hid (fun w => width_any L w (by omega) (by omega))
          rw [b1] at HWD
          have hnb := numAt_bd l t (widN L)
          obtain ⟨v, e, t2, hbk⟩ : ∃ v e t2, butk (8 * l.length) t (numAt l t (widN L)) L = (v, e, t2) := ⟨_, _, _, rfl⟩
          have HT2 := Lib.hid (butk_le hbk HT.out)
          have HBK := Lib.hid hbk
          rcases butk_ok hbk l0 l1 hnb.1 with ⟨rfl, hv, hle, rfl, htk, hcan⟩ | ⟨rfl, he⟩
          · have HCAN := Lib.hid hcan
            have htl : ((bitsOf l).take t).length = t := by rw [List.length_take, bitsOf_len]; omega
            have htl2 : ((bitsOf l).take (t + widN L)).length = t + widN L := by rw [List.length_take, bitsOf_len]; omega
            have HTL := Lib.hid (show ((bitsOf l).take t).length ≤ 100000000000 by omega)
            have HTL2 := Lib.hid htl2
            have HTL3 := Lib.hid (show ((bitsOf l).take (t + widN L)).length ≤ 1000000000000 by omega)
            have HNX := Lib.hid (show (bitsOf l).take t ++ bitsN v (widN L) = (bitsOf l).take (t + widN L) by rw [hv]; exact bitsN_numAt l t (widN L) htk)
            have HTK := Lib.hid htk
            have hsum : IntKind.i64.wrap ((t : Int) + (widN L : Int)) = ((t + widN L : Nat) : Int) := by rw [IntWalk.i64_in _ (by omega)]; omega
            have HB8 := Lib.hid (show (bitsOf l).length = 8 * l.length from bitsOf_len l)
            have HTAKE := Lib.hid (fun W (h : Hold w W [rdO g l t, wrO g2 ((bitsOf l).take t)]) => hTake_bu h ht (by omega) BL.out (by omega) (by omega) hbk)
            have HPUT := Lib.hid (fun W (h : Hold w W [wrO g2 ((bitsOf l).take t), rdO g l (t + widN L)]) => hPut_bu h HTL.out hcan)
            rw [HNX.out] at HPUT
            clear hbk hcan htl htl2 hv hle htk hnb HBK HCAN HNX HTK HTL
            generalize widN L = K at *
            generalize hT2 : t + K = t2 at *
            go_wp2_with (first
              | (go_at_call 20; (with_reducible refine (HTAKE.out _ H.out.swap).mono ?_); rintro e w1 ⟨rfl, h⟩; replace H := Lib.hid h.swap; clear h HTAKE)
              | (go_at_call 12; (with_reducible refine (HPUT.out _ H.out).mono ?_); rintro e w1 ⟨rfl, h⟩; replace H := Lib.hid h; clear h HPUT)
              | (go_at_call 24; (with_reducible refine (HWD.out _).mono ?_); rintro e w1 ⟨rfl, rfl⟩)
              | (go_at_call 14; (with_reducible refine (hBits_w H.out).mono ?_); rintro e w1 ⟨rfl, rfl⟩; rw [HTL2.out])
              | (go_at_call 25; (with_reducible refine (bits_any _ _ l _ _ rfl (R0.out.below H.out.B) BL.out (by omega)).mono ?_); rintro e w1 ⟨v_, rfl, ho, hb⟩; obtain ⟨A1, c1, rfl, hle, hr⟩ := own_reads_of_le (d := false) ho; have RX := Lib.hid hr; have HC1 := Lib.hid hle; replace H := Lib.hid (H.out.below hb); clear ho hb hr hle))
            have SP := slice_pre A1 (8 * l.length) c1 t2 (by have := HC1.out; have := HT2.out; omega)
            have BO := Lib.hid (bytesOf'_ok ((bitsOf l).take t2))
            replace H := Lib.hid (Hold.drew H.out)
            replace RX := Lib.hid (RX.out.below (Below.refl _ _).drew)
            go_region_with (first
              | (go_at_call 16; (with_reducible refine (hBytes_w H.out HTL3.out).mono ?_); rintro e w1 ⟨A2, c2, rfl, hr, _, _, hb⟩; replace H := Lib.hid (H.out.below hb); have P1 := Lib.hid hr; (try replace RX := Lib.hid (RX.out.below hb)); (try replace P2 := Lib.hid (P2.out.below hb)); clear hb hr)
              | (go_at_call 17; (with_reducible refine (bytes_any _ _ ((bitsOf l).take t2) _ _ HTL2.out (readsB_take RX.out t2 HT2.out) (by omega)).mono ?_); rintro e w1 ⟨v_, rfl, ho, hb⟩; obtain ⟨A3, c3, rfl, hle, hr⟩ := own_reads' ho; replace H := Lib.hid (H.out.below hb); have P2 := Lib.hid hr; (try replace P1 := Lib.hid (P1.out.below hb)); clear hb hr ho hle)
              | (go_at_call 15; (with_reducible refine (same_any _ _ _ _ _ _ _ _ _ P1.out P2.out BO.out BO.out).mono ?_); rintro e w1 ⟨rfl, rfl⟩; rw [eqB_self]))
            go_wp2
            go_roundg (m.length - (i + 1))
            case measure => have := HK.out; omega
            case rel => exact ⟨i + 1, t2, by omega, rfl, rfl, by go_num, HT2.out, H⟩
          · have he2 := he
            have HTAKE := Lib.hid (fun W (h : Hold w W [rdO g l t, wrO g2 ((bitsOf l).take t)]) => hTake_bu h ht (by omega) BL.out (by omega) (by omega) hbk)
            rcases he2 with rfl | rfl
            all_goals clear hbk hnb HBK
            all_goals go_wp2_with (go_at_call 20; (with_reducible refine (HTAKE.out _ H.out.swap).mono ?_); rintro e w1 ⟨rfl, h⟩; replace H := Lib.hid h.swap; clear h HTAKE)
            all_goals go_ret
            all_goals exact ⟨rfl, H.out.B⟩
        · have hfin : ¬ ((i : Int) < (m.length : Int)) := by omega
          go_wp2
          all_goals go_ret
          all_goals exact ⟨rfl, H.out.B⟩
    · go_enter Try.func6, Try.ntmps6
      go_wp2_with (go_at_call 8; (with_reducible refine (awake13 _).mono ?_); rintro e w1 ⟨rfl, hb⟩; replace H := Lib.hid (H.out.below hb); clear hb)
      go_ret
      exact ⟨rfl, H.out.B⟩
  · go_enter Try.func6, Try.ntmps6
    go_wp2_with (go_at_call 8; (with_reducible refine (awake13 _).mono ?_); rintro e w1 ⟨rfl, hb⟩; replace H := Lib.hid (H.out.below hb); clear hb)
    go_ret
    exact ⟨rfl, H.out.B⟩
end Go.Proofs.Ytbcpngaebijddaa
