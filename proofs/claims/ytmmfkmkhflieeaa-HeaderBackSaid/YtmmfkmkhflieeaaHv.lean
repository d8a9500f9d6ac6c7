/- The layer header's laws: HeaderBack. -/
import Derived.Test.YtmmfkmkhflieeaaHh
namespace Go.Proofs.Ytmmfkmkhflieeaa
open Go.RowKit Go.Proofs.YtmmfkmkhflieeaaW.PrintWords Go.Proofs.YtmmfkmkhflieeaaW.PrintLast Go.Proofs.YtmmfkmkhflieeaaW.PrintMore PPr
attribute [local go_sem] max2_int min2_int max_two min_two max_three min_three max_four min_four
set_option linter.unusedSimpArgs false
set_option linter.unusedVariables false
section
variable {w0 W : World} {os : List Ob}
theorem hRest_r {g : Nat} {l : List Int} {t : Nat} (H : Hold w0 W (rdO g l t :: os)) (ht : t ≤ 8 * l.length) (hm : l.length ≤ 140737488351232) :
    Calls Try.prog 28 #[.pointer (some ⟨g, 0, none⟩)] W fun e w' => ∃ A c, e = .returned (.slice A (l.length - (t + 7) / 8) c) ∧ ReadsInt w' .u8 A (l.length - (t + 7) / 8) (l.drop ((t + 7) / 8)) ∧ Hold w0 w' (rdO g l t :: os) := by
  obtain ⟨F, A, c, hI, hF⟩ := H.head
  refine (brest_any g l t W hI ht hm).mono ?_
  rintro e w' ⟨v, rfl, ho, hb⟩
  obtain ⟨A1, c1, rfl, _, hr⟩ := own_reads' ho
  exact ⟨A1, c1, rfl, hr, H.below hb⟩
theorem hBytesO_w {g : Nat} {bs : List Bool} (H : Hold w0 W (wrO g bs :: os)) (hm : bs.length ≤ 1000000000000) :
    Calls Try.prog 14 #[.pointer (some ⟨g, 0, none⟩)] W fun e w' => ∃ v, e = .returned v ∧ w'.ownsRow 0 5 1 v (bytesOf' bs).length (nums .u8 (bytesOf' bs)) ∧ Hold w0 w' (owO 5 1 v (bytesOf' bs).length (nums .u8 (bytesOf' bs)) :: wrO g bs :: os) := by
  obtain ⟨F, h⟩ := H.head
  refine (wbytes_any g bs W F h hm).mono ?_
  rintro e w' ⟨v, rfl, ho, hb⟩
  exact ⟨v, rfl, own_weaken ho (Nat.zero_le _), H.new hb ⟨own_weaken ho (Nat.zero_le _), rfl⟩ (fun k hk => own_base ho k hk)⟩
theorem Hold.appended {e size : Nat} {v v1 : Value} {n n1 : Nat} {xs xs1 : List Value} {w1 : World} (H : Hold w0 W (owO e size v n xs :: os)) (ho : w1.ownsRow 0 e size v1 n1 xs1) (hg : W.grownBy w1 v.ownBlock) (hat : v1.ownBlock = v.ownBlock ∨ ∃ b, v1.ownBlock = some b ∧ W.heap.size ≤ b) : Hold w0 w1 (owO e size v1 n1 xs1 :: os) :=
  H.turn fun F ⟨h1, h2⟩ => ⟨_, ⟨ho, rfl⟩, Chg.of_grown hg (fun k e => by rw [h2]; exact e), fun k hk => by
    rcases hat with h | ⟨b, h, hb⟩
    · left; rw [h2]; exact h ▸ hk
    · right; have : b = k := by rw [h] at hk; injection hk
      omega⟩
end
set_option maxRecDepth 20000 in
set_option maxHeartbeats 8000000 in
theorem hdback_walk (a : Option Addr) (len cap : Nat) (zs : List Int) (r : Int) (b : Option Addr) (len2 cap2 : Nat) (zs2 : List Int) (w : World) (h : IsRow .u16 w a len cap zs) (y : len * 2 ≤ 140737488351232) (h1 : (Lit.int .u8 r).wf = true) (h' : IsRow .u8 w b len2 cap2 zs2) (y' : len2 * 1 ≤ 140737488351232) :
    Calls Try.prog 7 #[.slice a len cap, .int .u8 r, .slice b len2 cap2] w fun e w' => e = .returned (.bool true) ∧ Below w.heap.size w w' := by
  obtain ⟨l, rfl, hr, hle, hwf⟩ := h.reads (by omega)
  obtain ⟨C, rfl, hr2, _, hwf2⟩ := h'.reads (by omega)
  have h1 := bounds_u8 h1
  have R0 := Lib.hid (show Kd.C (Kd.int .u16) w a l.length l from Kd.C_of_reads (readsInt_of.1 hr))
  have RC0 := Lib.hid hr2
  have CK := Lib.hid (show ∀ x, x ∈ C → 0 ≤ x ∧ x ≤ 255 from wf_u8 hwf2)
  have HB := Lib.hid (Below.refl w.heap.size w)
  obtain ⟨q, k, hS, hsome⟩ := some_at l r hwf h1.1 h1.2
  have HS := Lib.hid hsome
  clear h h' hr hr2 hwf hwf2 y y' hsome h1
  by_cases hs : l.length ≤ 80
  · by_cases hs2 : C.length ≤ 60
    · have hN := hS.N
      have k0 := hS.k0
      have k1 := hS.k1
      obtain ⟨hl, hnn, _⟩ := (rightB_iff q).1 hN.R
      have hsm : q.sum = p2 k := by rw [hN.sm]; unfold p2; simp
      have hp := p2_mono (show k ≤ 12 by omega)
      rw [show p2 12 = 4096 by decide] at hp
      have hbl := hdb_len q hl hnn (by omega) 256 0 rfl
      have HPU := Lib.hid (fun (w W : World) g os A c hc h HQ => hPut_256 (w0 := w) (W := W) (g := g) (bs := []) (os := os) h (by simp) (A := A) (c := c) hN hc HQ)
      simp only [List.nil_append] at HPU
      have hR1 := hdk_q hN (beg_more (hdb q 0) C)
      have hpad := pad_more (hdb q 0) C
      have hBL := bytesOf'_len (hdb q 0)
      have hBO := bytesOf'_ok (hdb q 0)
      have HWB := Lib.hid (fun w W g os (h : Hold w W (wrO g (hdb q 0) :: os)) => hBytesO_w h (by omega))
      generalize hdb q 0 = bs at *
      obtain ⟨B, hB⟩ : ∃ B, bytesOf' bs = B := ⟨_, rfl⟩
      rw [hB] at hBL hBO hR1 hpad HWB
      clear hB
      have hbn : B.length ≤ 1000000 := by omega
      have LK := Lib.hid (show ∀ x, x ∈ B ++ C → 0 ≤ x ∧ x ≤ 255 from fun x hx => (List.mem_append.1 hx).elim (hBO x) (CK.out x))
      have hll : (B ++ C).length = B.length + C.length := List.length_append
      have hdr : (B ++ C).drop B.length = C := List.drop_left
      have HLL := Lib.hid hll
      have HTK := Lib.hid (fun w W g os h => htake_ok (w0 := w) (W := W) (os := os) g (B ++ C) 0 k h (Nat.zero_le _) (by rw [hll]; omega) LK.out (by omega) (by omega) hR1)
      have HPD := Lib.hid (fun w W g os (h : Hold w W (rdO g (B ++ C) bs.length :: os)) => hPad_r h (by rw [hll]; omega) (by rw [hll]; omega) hpad)
      rw [show 8 * ((bs.length + 7) / 8) = 8 * B.length by omega] at HPD
      have HRS := Lib.hid (fun w W g os (h : Hold w W (rdO g (B ++ C) (8 * B.length) :: os)) => hRest_r h (by rw [hll]; omega) (by rw [hll]; omega))
      rw [show (8 * B.length + 7) / 8 = B.length by omega, show (B ++ C).length - B.length = C.length by omega, hdr] at HRS
      obtain ⟨k2, hk2⟩ : ∃ k2 : Nat, k2 = k + 1 := ⟨_, rfl⟩
      have e1 : (k : Int) + 1 = (k2 : Int) := by omega
      have e2 : IntKind.i64.wrap (k2 : Int) = (k2 : Int) := IntWalk.i64_in _ (by omega)
      have HBN := Lib.hid hbn
      have HQL := Lib.hid hl
      obtain ⟨o, er, t, hR2⟩ : ∃ o er t, hdk (B ++ C) (List.replicate 256 0) (p2 k2) false 0 0 = (o, er, t) := ⟨_, _, _, rfl⟩
      rcases hdk_log (B ++ C) k2 (by omega) (by omega) hR2 with ⟨rfl, hN2, _, _⟩ | ⟨rfl, he⟩
      · have HTK2 := Lib.hid (fun w W g os h => htake_ok (w0 := w) (W := W) (os := os) g (B ++ C) 0 k2 h (Nat.zero_le _) (by rw [hll]; omega) LK.out (by omega) (by omega) hR2)
        have HNE := Lib.hid (show decide (o = q) = false from decide_eq_false (fun h => by have := IsN.one hN (h ▸ hN2); omega))
        have HOL := Lib.hid (((rightB_iff o).1 hN2.R).1)
        clear hS hN hl hnn hsm hp hbl hR1 hpad hBL hBO hbn hll hdr hk2 hR2 hN2 k0 k1
        have S1 := Lib.hid trivial
        have S2 := Lib.hid trivial
        go_enter Try.func7, Try.ntmps7
        go_wp2_with (first
          | (go_at_call 8; (with_reducible refine (awake15 _).mono ?_); rintro e w1 ⟨rfl, hb⟩; replace R0 := Lib.hid (Kd.C_below R0.out hb); replace RC0 := Lib.hid (RC0.out.below hb); replace HB := Lib.hid (below_then' HB.out hb); clear hb)
          | (go_at_call 24; (with_reducible refine (HS.out _ _ _ R0.out hle).mono ?_); rintro e w2 ⟨A1, c1, rfl, hr, hc1, hb⟩; have RQ := Lib.hid (fun W (h : Below w2.heap.size w2 W) => Kd.C_below hr h); replace RC0 := Lib.hid (RC0.out.below hb); have RC := Lib.hid (fun W (h : Below w2.heap.size w2 W) => RC0.out.below h); replace HB := Lib.hid (below_then' HB.out hb); have H := Lib.hid (Hold.start w2); clear hb hr RC0)
          | (go_at_call 9; (with_reducible refine (hNew_w H.out).mono ?_); rintro e w3 ⟨g, rfl, h⟩; replace H := Lib.hid h; clear h)
          | (go_at_call 10; (with_reducible refine (HPU.out _ _ _ _ _ _ hc1 H.out (fun W bs h => RQ.out W h.B)).mono ?_); rintro e w4 ⟨rfl, h⟩; replace H := Lib.hid h; clear h)
          | (go_at_call 14; (with_reducible refine (HWB.out _ _ _ _ H.out).mono ?_); rintro e w5 ⟨v, rfl, ho, h⟩; replace H := Lib.hid h; have HO := Lib.hid ho; clear h ho)
          | (at_builtin; refine print_append_row (w0 := _) 0 rfl (.tmp 42) (.tmp 43) 31 5 .u8 1 rfl Try.underlying31 info_u8 (by omega) _ B C _ _ _ rfl rfl HO.out (RC.out _ H.out.B) (Below.refl 0 _) (Nat.zero_le _) (by have := HBN.out; omega) ?_; intro v1 w6 ho hb hg hat; replace H := Lib.hid (H.out.appended ho hg hat); obtain ⟨A1, c1, rfl, hle, hr⟩ := own_reads' ho; have NL := Lib.hid (own_nil1 ho); rw [HLL.out] at hr; have RL := Lib.hid hr; clear ho hb hg hat hr HO)
          | (at_builtin; refine print_append_row (w0 := _) 0 rfl (.tmp 47) (.tmp 48) 31 5 .u8 1 rfl Try.underlying31 info_u8 (by omega) _ B C _ _ _ rfl rfl HO.out (RC.out _ H.out.B) (Below.refl 0 _) (Nat.zero_le _) (by have := HBN.out; omega) ?_; intro v1 w6 ho hb hg hat; replace H := Lib.hid (H.out.appended ho hg hat); obtain ⟨A1, c1, rfl, hle, hr⟩ := own_reads' ho; have NL := Lib.hid (own_nil1 ho); rw [HLL.out] at hr; have RL := Lib.hid hr; clear ho hb hg hat hr HO)
          | (go_at_call 17; clear S1; (with_reducible refine (hNew_r H.out HLL.out RL.out (by have := HBN.out; omega) NL.out).mono ?_); rintro e w7 ⟨g2, rfl, h, _⟩; replace H := Lib.hid h.swap.drop.swap; clear h RL NL)
          | (go_at_call 17; clear S2; (with_reducible refine (hNew_r H.out HLL.out RL.out (by have := HBN.out; omega) NL.out).mono ?_); rintro e w7 ⟨g3, rfl, h, _⟩; replace H := Lib.hid h.swap.drop.third; clear h RL NL)
          | (go_at_call 19; (with_reducible refine (HTK.out _ _ _ _ H.out).mono ?_); rintro e w8 ⟨g4, c4, rfl, hc4, _, h⟩; replace H := Lib.hid h.third; clear h)
          | (go_at_call 19; (with_reducible refine (HTK2.out _ _ _ _ H.out).mono ?_); rintro e w8 ⟨g5, c5, rfl, hc5, _, h⟩; replace H := Lib.hid h.fourth; clear h)
          | (go_at_call 27; (with_reducible refine (HPD.out _ _ _ _ H.out).mono ?_); rintro e w9 ⟨rfl, h⟩; replace H := Lib.hid h; clear h)
          | (go_at_call 21; (with_reducible refine (ints_at2 HQL.out HQL.out (rowO_C H.out.fourth) (RQ.out _ H.out.B) hc4 hc1 (by decide) (decide_eq_true rfl)).mono ?_); rintro e w10 ⟨rfl, nd, rfl⟩; replace H := Lib.hid (Hold.drewN H.out nd))
          | (go_at_call 21; (with_reducible refine (ints_at2 HOL.out HQL.out (rowO_C H.out.swap) (RQ.out _ H.out.B) hc5 hc1 (by decide) HNE.out).mono ?_); rintro e w10 ⟨rfl, nd, rfl⟩; replace H := Lib.hid (Hold.drewN H.out nd))
          | (go_at_call 28; (with_reducible refine (HRS.out _ _ _ _ H.out).mono ?_); rintro e w11 ⟨A3, c3, rfl, hr, h⟩; replace H := Lib.hid h; have P1 := Lib.hid hr; clear h hr)
          | (go_at_call 13; (with_reducible refine (same_any _ _ _ _ _ _ _ _ _ P1.out (RC.out _ H.out.B) CK.out CK.out).mono ?_); rintro e w12 ⟨rfl, rfl⟩; rw [eqB_self]))
        go_ret
        exact ⟨rfl, below_then' HB.out H.out.B⟩
      · have hne : er ≠ 0 := by omega
        have HTK2 := Lib.hid (fun w W g os h => htake_err (w0 := w) (W := W) (os := os) g (B ++ C) 0 k2 h (Nat.zero_le _) (by rw [hll]; omega) LK.out (by omega) (by omega) hne hR2)
        have HNE := Lib.hid (show decide (([] : List Int) = q) = false from decide_eq_false (fun h => by rw [← h] at hl; cases hl))
        clear hS hN hl hnn hsm hp hbl hR1 hpad hBL hBO hbn hll hdr hk2 hR2 hne he k0 k1
        have S1 := Lib.hid trivial
        have S2 := Lib.hid trivial
        go_enter Try.func7, Try.ntmps7
        go_wp2_with (first
          | (go_at_call 8; (with_reducible refine (awake15 _).mono ?_); rintro e w1 ⟨rfl, hb⟩; replace R0 := Lib.hid (Kd.C_below R0.out hb); replace RC0 := Lib.hid (RC0.out.below hb); replace HB := Lib.hid (below_then' HB.out hb); clear hb)
          | (go_at_call 24; (with_reducible refine (HS.out _ _ _ R0.out hle).mono ?_); rintro e w2 ⟨A1, c1, rfl, hr, hc1, hb⟩; have RQ := Lib.hid (fun W (h : Below w2.heap.size w2 W) => Kd.C_below hr h); replace RC0 := Lib.hid (RC0.out.below hb); have RC := Lib.hid (fun W (h : Below w2.heap.size w2 W) => RC0.out.below h); replace HB := Lib.hid (below_then' HB.out hb); have H := Lib.hid (Hold.start w2); clear hb hr RC0)
          | (go_at_call 9; (with_reducible refine (hNew_w H.out).mono ?_); rintro e w3 ⟨g, rfl, h⟩; replace H := Lib.hid h; clear h)
          | (go_at_call 10; (with_reducible refine (HPU.out _ _ _ _ _ _ hc1 H.out (fun W bs h => RQ.out W h.B)).mono ?_); rintro e w4 ⟨rfl, h⟩; replace H := Lib.hid h; clear h)
          | (go_at_call 14; (with_reducible refine (HWB.out _ _ _ _ H.out).mono ?_); rintro e w5 ⟨v, rfl, ho, h⟩; replace H := Lib.hid h; have HO := Lib.hid ho; clear h ho)
          | (at_builtin; refine print_append_row (w0 := _) 0 rfl (.tmp 42) (.tmp 43) 31 5 .u8 1 rfl Try.underlying31 info_u8 (by omega) _ B C _ _ _ rfl rfl HO.out (RC.out _ H.out.B) (Below.refl 0 _) (Nat.zero_le _) (by have := HBN.out; omega) ?_; intro v1 w6 ho hb hg hat; replace H := Lib.hid (H.out.appended ho hg hat); obtain ⟨A1, c1, rfl, hle, hr⟩ := own_reads' ho; have NL := Lib.hid (own_nil1 ho); rw [HLL.out] at hr; have RL := Lib.hid hr; clear ho hb hg hat hr HO)
          | (at_builtin; refine print_append_row (w0 := _) 0 rfl (.tmp 47) (.tmp 48) 31 5 .u8 1 rfl Try.underlying31 info_u8 (by omega) _ B C _ _ _ rfl rfl HO.out (RC.out _ H.out.B) (Below.refl 0 _) (Nat.zero_le _) (by have := HBN.out; omega) ?_; intro v1 w6 ho hb hg hat; replace H := Lib.hid (H.out.appended ho hg hat); obtain ⟨A1, c1, rfl, hle, hr⟩ := own_reads' ho; have NL := Lib.hid (own_nil1 ho); rw [HLL.out] at hr; have RL := Lib.hid hr; clear ho hb hg hat hr HO)
          | (go_at_call 17; clear S1; (with_reducible refine (hNew_r H.out HLL.out RL.out (by have := HBN.out; omega) NL.out).mono ?_); rintro e w7 ⟨g2, rfl, h, _⟩; replace H := Lib.hid h.swap.drop.swap; clear h RL NL)
          | (go_at_call 17; clear S2; (with_reducible refine (hNew_r H.out HLL.out RL.out (by have := HBN.out; omega) NL.out).mono ?_); rintro e w7 ⟨g3, rfl, h, _⟩; replace H := Lib.hid h.swap.drop.third; clear h RL NL)
          | (go_at_call 19; (with_reducible refine (HTK.out _ _ _ _ H.out).mono ?_); rintro e w8 ⟨g4, c4, rfl, hc4, _, h⟩; replace H := Lib.hid h.third; clear h)
          | (go_at_call 19; (with_reducible refine (HTK2.out _ _ _ _ H.out).mono ?_); rintro e w8 ⟨rfl, h⟩; replace H := Lib.hid h.third; clear h)
          | (go_at_call 27; (with_reducible refine (HPD.out _ _ _ _ H.out).mono ?_); rintro e w9 ⟨rfl, h⟩; replace H := Lib.hid h; clear h)
          | (go_at_call 21; (with_reducible refine (ints_at2 HQL.out HQL.out (rowO_C H.out.third) (RQ.out _ H.out.B) hc4 hc1 (by decide) (decide_eq_true rfl)).mono ?_); rintro e w10 ⟨rfl, nd, rfl⟩; replace H := Lib.hid (Hold.drewN H.out nd))
          | (go_at_call 21; (with_reducible refine (ints_at2 (a := []) (n := 0) rfl HQL.out (Kd.C_nil (Kd.int .i64) _) (RQ.out _ H.out.B) (Nat.le_refl _) hc1 (by decide) HNE.out).mono ?_); rintro e w10 ⟨rfl, nd, rfl⟩; replace H := Lib.hid (Hold.drewN H.out nd))
          | (go_at_call 28; (with_reducible refine (HRS.out _ _ _ _ H.out).mono ?_); rintro e w11 ⟨A3, c3, rfl, hr, h⟩; replace H := Lib.hid h; have P1 := Lib.hid hr; clear h hr)
          | (go_at_call 13; (with_reducible refine (same_any _ _ _ _ _ _ _ _ _ P1.out (RC.out _ H.out.B) CK.out CK.out).mono ?_); rintro e w12 ⟨rfl, rfl⟩; rw [eqB_self]))
        go_ret
        exact ⟨rfl, below_then' HB.out H.out.B⟩
    · go_enter Try.func7, Try.ntmps7
      go_wp2_with (go_at_call 8; (with_reducible refine (awake15 _).mono ?_); rintro e w1 ⟨rfl, hb⟩; replace HB := Lib.hid (below_then' HB.out hb); clear hb)
      go_ret
      exact ⟨rfl, HB.out⟩
  · go_enter Try.func7, Try.ntmps7
    go_wp2_with (go_at_call 8; (with_reducible refine (awake15 _).mono ?_); rintro e w1 ⟨rfl, hb⟩; replace HB := Lib.hid (below_then' HB.out hb); clear hb)
    go_ret
    exact ⟨rfl, HB.out⟩
end Go.Proofs.Ytmmfkmkhflieeaa
