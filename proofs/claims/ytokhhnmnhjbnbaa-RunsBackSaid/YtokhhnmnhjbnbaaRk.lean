/- The layer runs' laws: RunsBack. -/
import Derived.Test.YtokhhnmnhjbnbaaRt
namespace Go.Proofs.Ytokhhnmnhjbnbaa
open Go.RowKit Go.Proofs.YtokhhnmnhjbnbaaW.PrintWords Go.Proofs.YtokhhnmnhjbnbaaW.PrintLast Go.Proofs.YtokhhnmnhjbnbaaW.PrintMore
attribute [local go_sem] max2_int min2_int max_two min_two max_three min_three max_four min_four
set_option linter.unusedSimpArgs false
set_option linter.unusedVariables false
theorem takeR_put (bs : List Bool) (most : Int) (x : Nat) (t : Nat) (r : List Bool) (ht : t ≤ bs.length) (hd : bs.drop t = runBits x ++ r) (hx : (x : Int) ≤ most) (hm : most ≤ 255) : takeR (bytesOf' bs) most t = ((x : Int), 0, t + (runBits x).length) := by
  unfold takeR
  rw [if_pos ⟨by omega, hm⟩, tkR_put bs most x 0 t r ht hd (by omega)]
  simp
theorem takeR_over (bs : List Bool) (most : Int) (x : Nat) (r : List Bool) (hd : bs = runBits x ++ r) (h0 : 0 ≤ most) (hx : most < (x : Int)) (hm : most ≤ 255) : ∃ t', takeR (bytesOf' bs) most 0 = (0, 13, t') := by
  unfold takeR
  rw [if_pos ⟨h0, hm⟩]
  exact tkR_over bs most x 0 0 r (by omega) (by simpa using hd) h0 (by omega)
set_option maxRecDepth 20000 in
set_option maxHeartbeats 4000000 in
theorem ruback_walk (a : Option Addr) (len cap : Nat) (zs : List Int) (more : Int) (w : World) (h : IsRow .u8 w a len cap zs) (y : len * 1 ≤ 140737488351232) (h1 : (Lit.int .u8 more).wf = true) :
    Calls Try.prog 7 #[.slice a len cap, .int .u8 more] w fun e w' => e = .returned (.bool true) ∧ Below w.heap.size w w' := by
  obtain ⟨m, rfl, hr, _, hwf⟩ := h.reads (by omega)
  have h1 := bounds_u8 h1
  have R0 := Lib.hid hr
  have BL := Lib.hid (show ∀ x, x ∈ m → 0 ≤ x ∧ x ≤ 255 from wf_u8 hwf)
  have H := Lib.hid (Hold.start w)
  clear h hr hwf y
  have wm : IntKind.i64.wrap more = more := IntWalk.i64_in _ (by omega)
  by_cases hs : m.length ≤ 30
  · have HX := Lib.hid (fun i (hi : i < m.length) => show 0 ≤ m.getD i 0 ∧ m.getD i 0 ≤ 255 by
      rw [List.getD_eq_getElem?_getD, List.getElem?_eq_getElem hi]; exact BL.out _ (List.getElem_mem hi))
    have HLEN := Lib.hid (rb_len m BL.out)
    have HTAKE := Lib.hid (rb_take m)
    have HDROP := Lib.hid (rb_drop m)
    have HLE := Lib.hid (rb_le m)
    have HALL := Lib.hid (show rb (m.take m.length) = rb m by rw [List.take_length])
    go_enter Try.func7, Try.ntmps7
    go_wp2_with (first
      | (go_at_call 8; (with_reducible refine (awake14 _).mono ?_); rintro e w1 ⟨rfl, hb⟩; replace H := Lib.hid (H.out.below hb); clear hb)
      | (go_at_call 9; (with_reducible refine (hNew_w H.out).mono ?_); rintro e w1 ⟨g, rfl, h⟩; replace H := Lib.hid h; clear h))
    go_loopg [7] m.length (fun k q wr => ∃ i : Nat, i ≤ m.length ∧ k = m.length - i ∧ q = .int .i64 i ∧ Hid (Hold w wr [wrO g (rb (m.take i))]))
    case atStart => exact ⟨0, by omega, rfl, rfl, H⟩
    case round =>
      obtain ⟨i, hi, hk, rfl, hT⟩ := hrel
      have HK := Lib.hid hk
      clear H
      have H := hT
      clear hk hT
      by_cases hi2 : i < m.length
      · have i1 : (i : Int) < (m.length : Int) := by omega
        obtain ⟨ad, hA, hcell⟩ := reads_cell (R0.out.below H.out.B) i hi2
        subst hA
        have hx := HX.out i hi2
        have hl := HLEN.out i hi
        have ht := HTAKE.out i hi2
        generalize m.getD i 0 = X at *
        obtain ⟨x, rfl⟩ : ∃ x : Nat, X = x := ⟨X.toNat, by omega⟩
        have HP := Lib.hid (fun W os (h : Hold w W (wrO g (rb (m.take i)) :: os)) => hPut_ru h (by omega) x (by omega))
        rw [Int.toNat_natCast] at ht
        rw [← ht] at HP
        have wx : IntKind.i64.wrap (x : Int) = (x : Int) := IntWalk.i64_in _ (by omega)
        clear ht hl
        go_wp2_with (go_at_call 11; (with_reducible refine (HP.out _ _ H.out).mono ?_); rintro e w1 ⟨rfl, h⟩; replace H := Lib.hid h; clear h)
        go_roundg (m.length - (i + 1))
        case measure => have := HK.out; omega
        case rel => exact ⟨i + 1, by omega, rfl, by go_num, H⟩
      · have i1 : ¬ (i : Int) < (m.length : Int) := by omega
        obtain rfl : i = m.length := by omega
        rw [HALL.out] at H
        obtain ⟨bs, hbs⟩ : ∃ bs, rb m = bs := ⟨_, rfl⟩
        have HBL := Lib.hid (show bs.length ≤ 5160 by have := HLEN.out m.length (Nat.le_refl _); rw [HALL.out, hbs] at this; omega)
        have HM := Lib.hid (show bs.length ≤ 1000000000000 by have := HBL.out; omega)
        rw [hbs] at H HDROP HLE HALL
        have BO := Lib.hid (bytesOf'_ok bs)
        have HBB := Lib.hid (bytesOf'_len bs)
        obtain ⟨B, hB⟩ : ∃ B, bytesOf' bs = B := ⟨_, rfl⟩
        have HPUT := Lib.hid (takeR_put bs)
        have HOVER := Lib.hid (takeR_over bs)
        have HPAD := Lib.hid (pad_bytes bs)
        have HWB := Lib.hid (fun W os (h : Hold w W (wrO g bs :: os)) => hBytes_w h HM.out)
        rw [hB] at BO HBB HPUT HOVER HPAD HWB
        have HBN := Lib.hid (show B.length ≤ 1000 by have := HBB.out; have := HBL.out; omega)
        go_wp2_with (first
          | (go_at_call 15; (with_reducible refine (HWB.out _ _ H.out).mono ?_); rintro e w1 ⟨A1, c1, rfl, hr, hn, _, hb⟩; replace H := Lib.hid (H.out.below hb); have RR := Lib.hid hr; have NL := Lib.hid hn; clear hb hr hn)
          | (go_at_call 17; (with_reducible refine (hNew_r H.out rfl RR.out (by have := HBN.out; omega) NL.out).mono ?_); rintro e w1 ⟨g2, rfl, h, _⟩; replace H := Lib.hid h; clear h RR NL))
        go_loopg [10] m.length (fun k q wr => ∃ i : Nat, i ≤ m.length ∧ k = m.length - i ∧ q = .int .i64 i ∧ Hid (Hold w wr [rdO g2 B (rb (m.take i)).length, wrO g bs]))
        case atStart => exact ⟨0, by omega, rfl, rfl, H⟩
        case round =>
          obtain ⟨i, hi, hk, rfl, hT⟩ := hrel
          have HK := Lib.hid hk
          clear H
          have H := hT
          clear hk hT
          by_cases hi2 : i < m.length
          · have i1 : (i : Int) < (m.length : Int) := by omega
            obtain ⟨ad, hA, hcell⟩ := reads_cell (R0.out.below H.out.B) i hi2
            subst hA
            have HCL := Lib.hid (fun wr hb => reads_some R0.out i hi2 wr hb)
            have hx := HX.out i hi2
            have ht := HTAKE.out i hi2
            have hd := HDROP.out i hi2
            have hle := HLE.out i hi
            have hl2 := congrArg List.length ht
            rw [List.length_append] at hl2
            generalize m.getD i 0 = X at *
            obtain ⟨x, rfl⟩ : ∃ x : Nat, X = x := ⟨X.toNat, by omega⟩
            rw [Int.toNat_natCast] at hd hl2
            have wx : IntKind.i64.wrap (x : Int) = (x : Int) := IntWalk.i64_in _ (by omega)
            have ws : IntKind.i64.wrap ((x : Int) + more) = (x : Int) + more := IntWalk.i64_in _ (by omega)
            have HT := Lib.hid (show (rb (m.take i)).length ≤ 8 * B.length by have := HBB.out; omega)
            have hq : ∀ P : Int, (x : Int) ≤ P → P ≤ 255 → takeR B P (rb (m.take i)).length = ((x : Int), 0, (rb (m.take (i + 1))).length) := fun P h h' => by
              rw [hl2]; exact HPUT.out P x _ _ hle hd h h'
            by_cases hP : (x : Int) + more < 255
            · have HTK := Lib.hid (fun W os (h : Hold w W (rdO g2 B (rb (m.take i)).length :: os)) => hTake_ru h HT.out (by have := HBN.out; omega) BO.out (hq ((x : Int) + more) (by omega) (by omega)))
              clear hq hd ht hl2 hle
              go_wp2_with (go_at_call 19; (with_reducible refine (HTK.out _ _ H.out).mono ?_); rintro e w1 ⟨rfl, h⟩; replace H := Lib.hid h; clear h hcell; have hcell := HCL.out _ H.out.B)
              go_roundg (m.length - (i + 1))
              case measure => have := HK.out; omega
              case rel => exact ⟨i + 1, by omega, rfl, by go_num, H⟩
            · have HTK := Lib.hid (fun W os (h : Hold w W (rdO g2 B (rb (m.take i)).length :: os)) => hTake_ru h HT.out (by have := HBN.out; omega) BO.out (hq 255 (by omega) (by omega)))
              clear hq hd ht hl2 hle
              go_wp2_with (go_at_call 19; (with_reducible refine (HTK.out _ _ H.out).mono ?_); rintro e w1 ⟨rfl, h⟩; replace H := Lib.hid h; clear h hcell; have hcell := HCL.out _ H.out.B)
              go_roundg (m.length - (i + 1))
              case measure => have := HK.out; omega
              case rel => exact ⟨i + 1, by omega, rfl, by go_num, H⟩
          · have i1 : ¬ (i : Int) < (m.length : Int) := by omega
            obtain rfl : i = m.length := by omega
            rw [HALL.out] at H
            have HT := Lib.hid (show bs.length ≤ 8 * B.length by have := HBB.out; omega)
            have HEND := Lib.hid (show 8 * ((bs.length + 7) / 8) = 8 * B.length by have := HBB.out; omega)
            have HPD := Lib.hid (fun W os (h : Hold w W (rdO g2 B bs.length :: os)) => hPad_r h HT.out (by have := HBN.out; omega) HPAD.out)
            rw [HEND.out] at HPD
            have HLF := Lib.hid (fun W os (h : Hold w W (rdO g2 B (8 * B.length) :: os)) => hLeft_r h (Nat.le_refl _) (by have := HBN.out; omega))
            rw [show 8 * (B.length : Int) - ((8 * B.length : Nat) : Int) = 0 by omega] at HLF
            clear HPUT HTAKE HLEN HLE HT HEND i1
            rcases Nat.eq_zero_or_pos m.length with hz | hz
            · have c0 : ¬ (0 < (m.length : Int)) := by omega
              go_wp2_with (first
                | (go_at_call 24; (with_reducible refine (HPD.out _ _ H.out).mono ?_); rintro e w1 ⟨rfl, h⟩; replace H := Lib.hid h; clear h)
                | (go_at_call 15; (with_reducible refine (HWB.out _ _ H.out.swap).mono ?_); rintro e w1 ⟨A1, c1, rfl, hr, hn, _, hb⟩; replace H := Lib.hid (H.out.swap.below hb); have RR := Lib.hid hr; have NL := Lib.hid hn; clear hb hr hn)
                | (go_at_call 17; (with_reducible refine (hNew_r H.out rfl RR.out (by have := HBN.out; omega) NL.out).mono ?_); rintro e w1 ⟨g3, rfl, h, _⟩; replace H := Lib.hid h; clear h RR NL)
                | (go_at_call 21; (with_reducible refine (HLF.out _ _ H.out.third).mono ?_); rintro e w1 ⟨rfl, h⟩; replace H := Lib.hid h; clear h))
              go_ret
              exact ⟨rfl, H.out.B⟩
            · have c0 : 0 < (m.length : Int) := by omega
              obtain ⟨ad, hA, _⟩ := reads_cell (R0.out.below H.out.B) 0 hz
              subst hA
              have HCL := Lib.hid (fun wr hb => reads_some R0.out 0 hz wr hb)
              have hx := HX.out 0 hz
              have hd := HDROP.out 0 hz
              rw [show (rb (m.take 0)).length = 0 from rfl, List.drop_zero] at hd
              generalize m.getD 0 0 = X at *
              simp only [add_zero'] at HCL
              have hcell := HCL.out _ H.out.B
              obtain ⟨x, rfl⟩ : ∃ x : Nat, X = x := ⟨X.toNat, by omega⟩
              rw [Int.toNat_natCast] at hd
              have wx : IntKind.i64.wrap (x : Int) = (x : Int) := IntWalk.i64_in _ (by omega)
              have ws : IntKind.i64.wrap ((x : Int) - 1) = (x : Int) - 1 := IntWalk.i64_in _ (by omega)
              rcases Nat.eq_zero_or_pos x with hx0 | hx0
              · have c1 : ¬ (0 < (x : Int)) := by omega
                clear hd
                go_wp2_with (first
                | (go_at_call 24; (with_reducible refine (HPD.out _ _ H.out).mono ?_); rintro e w1 ⟨rfl, h⟩; replace H := Lib.hid h; clear h hcell; have hcell := HCL.out _ H.out.B)
                | (go_at_call 15; (with_reducible refine (HWB.out _ _ H.out.swap).mono ?_); rintro e w1 ⟨A1, c1, rfl, hr, hn, _, hb⟩; replace H := Lib.hid (H.out.swap.below hb); have RR := Lib.hid hr; have NL := Lib.hid hn; clear hb hr hn hcell; have hcell := HCL.out _ H.out.B)
                | (go_at_call 17; (with_reducible refine (hNew_r H.out rfl RR.out (by have := HBN.out; omega) NL.out).mono ?_); rintro e w1 ⟨g3, rfl, h, _⟩; replace H := Lib.hid h; clear h RR NL hcell; have hcell := HCL.out _ H.out.B)
                | (go_at_call 21; (with_reducible refine (HLF.out _ _ H.out.third).mono ?_); rintro e w1 ⟨rfl, h⟩; replace H := Lib.hid h; clear h))
                go_ret
                exact ⟨rfl, H.out.B⟩
              · have c1 : 0 < (x : Int) := by omega
                obtain ⟨t', ht'⟩ := HOVER.out ((x : Int) - 1) x _ hd (by omega) (by omega) (by omega)
                have HTK := Lib.hid (fun W g3 os (h : Hold w W (rdO g3 B 0 :: os)) => hTake_ru h (by omega) (by have := HBN.out; omega) BO.out ht')
                clear hd ht'
                go_wp2_with (first
                | (go_at_call 19; (with_reducible refine (HTK.out _ _ _ H.out).mono ?_); rintro e w1 ⟨rfl, h⟩; replace H := Lib.hid h; clear h hcell; have hcell := HCL.out _ H.out.B)
                | (go_at_call 24; (with_reducible refine (HPD.out _ _ H.out).mono ?_); rintro e w1 ⟨rfl, h⟩; replace H := Lib.hid h; clear h hcell; have hcell := HCL.out _ H.out.B)
                | (go_at_call 15; (with_reducible refine (HWB.out _ _ H.out.swap).mono ?_); rintro e w1 ⟨A1, c1, rfl, hr, hn, _, hb⟩; replace H := Lib.hid (H.out.swap.below hb); have RR := Lib.hid hr; have NL := Lib.hid hn; clear hb hr hn hcell; have hcell := HCL.out _ H.out.B)
                | (go_at_call 17; (with_reducible refine (hNew_r H.out rfl RR.out (by have := HBN.out; omega) NL.out).mono ?_); rintro e w1 ⟨g3, rfl, h, _⟩; replace H := Lib.hid h; clear h RR NL hcell; have hcell := HCL.out _ H.out.B)
                | (go_at_call 21; (with_reducible refine (HLF.out _ _ H.out.third).mono ?_); rintro e w1 ⟨rfl, h⟩; replace H := Lib.hid h; clear h))
                go_ret
                exact ⟨rfl, H.out.B⟩
  · go_enter Try.func7, Try.ntmps7
    go_wp2_with (go_at_call 8; (with_reducible refine (awake14 _).mono ?_); rintro e w1 ⟨rfl, hb⟩; replace H := Lib.hid (H.out.below hb); clear hb)
    go_ret
    exact ⟨rfl, H.out.B⟩
end Go.Proofs.Ytokhhnmnhjbnbaa
