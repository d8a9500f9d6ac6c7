/- The layer header's laws: the chapter's example, and HeaderTakes. The layer header's laws: HeaderTakes. -/
import Derived.Test.YtmmfkmkhflieeaaHa
import Derived.Test.YtmmfkmkhflieeaaHe
namespace Go.Proofs.Ytmmfkmkhflieeaa
open Go.RowKit Go.Proofs.YtmmfkmkhflieeaaW.PrintWords Go.Proofs.YtmmfkmkhflieeaaW.PrintLast Go.Proofs.YtmmfkmkhflieeaaW.PrintMore PPr
attribute [local go_sem] max2_int min2_int max_two min_two max_three min_three max_four min_four
set_option linter.unusedSimpArgs false
set_option linter.unusedVariables false
section
variable {w0 W : World} {os : List Ob}
theorem rowO_C {g cap : Nat} {q : List Int} (H : Hold w0 W (rowO g cap q :: os)) : Kd.C (Kd.int .i64) W (some ⟨g, 0, none⟩) 256 q := by
  obtain ⟨A, c, h1, _, h3⟩ := own_reads' (rowO_own H)
  cases h1
  exact Kd.C_of_reads (readsInt_of.1 h3)
theorem ints_at2 {A B : Option Addr} {n m c d : Nat} {a b : List Int} (hn : a.length = n) (hm : b.length = m) (hA : Kd.C (Kd.int .i64) W A n a) (hB : Kd.C (Kd.int .i64) W B m b) (hc : n ≤ c) (hd : m ≤ d) (hb : n ≤ 4611686018427387000) {r : Bool} (hr : decide (a = b) = r) :
    Calls Try.prog 21 #[.slice A n c, .slice B m d] W fun e w' => e = .returned (.bool r) ∧ ∃ nd, w' = W.drewN nd := by
  subst hn hm hr
  obtain ⟨k, hk⟩ := (ints_ev a b hb).rounds
  exact (puncheonref01_Ints.calls k A c a B d b _ W hA hc hB hd hk).mono fun e w' ⟨h1, nd, h2⟩ => ⟨h1, nd, h2⟩
end
def qh : List Int := (List.replicate 256 (0 : Int)).set 2 32
theorem qh_len : qh.length = 256 := by unfold qh; rw [List.length_set, List.length_replicate]
theorem qh_sum : qh.sum = 32 := by decide +kernel
theorem qh_N : IsN qh 5 := ⟨by omega, by omega, by decide +kernel, qh_sum⟩
theorem qh_bits : (hdb qh 0).length = 14 := by decide +kernel
theorem hdk_q {q : List Int} {r : Nat} (hN : IsN q r) {l : List Int} (hB : Beg l (hdb q 0)) : hdk l (List.replicate 256 0) (p2 r) false 0 0 = (q, 0, (hdb q 0).length) := by
  obtain ⟨hl, hnn, _⟩ := (rightB_iff q).1 hN.R
  have hsm : q.sum = p2 r := by rw [hN.sm]; unfold p2; simp
  have hp := p2_mono hN.r1
  rw [show p2 12 = 4096 by decide] at hp
  have h := hdk_put hB q hl hnn (by omega) 256 0 rfl 0 [] false (Nat.zero_le _) (by simp) (by intro h; cases h)
  rw [qT_0, show rs q 0 = p2 r by unfold rs; rw [List.drop_zero]; exact hsm, Nat.zero_add] at h
  exact h
theorem hdk_le (l : List Int) : ∀ (d s : Nat), 256 - s = d → ∀ (q : List Int) (left : Int) (again : Bool) (t : Nat), t ≤ 8 * l.length → (hdk l q left again s t).2.2 ≤ 8 * l.length := by
  intro d
  induction d using Nat.strongRecOn with
  | _ d ih =>
  intro s hs q left again t ht
  rw [hdk]
  have hb : (butk (8 * l.length) t (numAt l t (widN left)) left).2.2 ≤ 8 * l.length := butk_le rfl ht
  split
  · exact ht
  · split
    · exact ht
    · split
      · exact hb
      · split
        · exact hb
        · split
          · split
            · exact hb
            · split
              · exact takeR_le rfl hb
              · exact ih _ (by omega) _ rfl _ _ _ _ (takeR_le rfl hb)
          · exact ih _ (by omega) _ rfl _ _ _ _ hb
section
variable {w0 W : World} {os : List Ob}
theorem hPut_256 {g : Nat} {bs : List Bool} (H : Hold w0 W (wrO g bs :: os)) (hb : bs.length ≤ 1000000) {A : Option Addr} {c : Nat} {q : List Int} {r : Nat} (hN : IsN q r) (hc : 256 ≤ c) (HQ : ∀ W bs, Hold w0 W (wrO g bs :: os) → Kd.C (Kd.int .i64) W A 256 q) :
    Calls Try.prog 10 #[.pointer (some ⟨g, 0, none⟩), .slice A 256 c] W fun e w' => e = .returned (.bool true) ∧ Hold w0 w' (wrO g (bs ++ hdb q 0) :: os) := by
  have hl := ((rightB_iff q).1 hN.R).1
  have := hPut_hd H hb hN (by rw [hl]; exact hc) (by rw [hl]; exact HQ)
  rwa [hl] at this
theorem hCost_256 (H : Hold w0 W os) {A : Option Addr} {c : Nat} {q : List Int} {r : Nat} (hN : IsN q r) (hc : 256 ≤ c) (HQ : ∀ W o, Hold w0 W (o :: os) → Kd.C (Kd.int .i64) W A 256 q) :
    Calls Try.prog 16 #[.slice A 256 c] W fun e w' => e = .returned (.int .i64 ((hdb q 0).length : Int)) ∧ Hold w0 w' os := by
  have hl := ((rightB_iff q).1 hN.R).1
  have := hCost_hd H hN (by rw [hl]; exact hc) (by rw [hl]; exact HQ)
  rwa [hl] at this
end
set_option maxRecDepth 20000 in
set_option maxHeartbeats 2000000 in
theorem awake15 (w : World) :
    Calls Try.prog 8 #[] w fun e w' => e = .returned (.bool true) ∧ Below w.heap.size w w' := by
  have H := Lib.hid (Hold.start w)
  obtain ⟨bs, hbs⟩ : ∃ bs, hdb qh 0 = bs := ⟨_, rfl⟩
  have hbl : bs.length = 14 := by rw [← hbs]; exact qh_bits
  have HDK := Lib.hid (show hdk (bytesOf' bs) (List.replicate 256 0) (p2 5) false 0 0 = (qh, 0, 14) by rw [hdk_q qh_N (by rw [hbs]; exact beg_self bs), hbs, hbl])
  have HPU := Lib.hid (fun W g os A c hc h HQ => hPut_256 (w0 := w) (W := W) (g := g) (bs := []) (os := os) h (by simp) (A := A) (c := c) qh_N hc HQ)
  have HCO := Lib.hid (fun W os A c hc h HQ => hCost_256 (w0 := w) (W := W) (os := os) h (A := A) (c := c) qh_N hc HQ)
  rw [hbs] at HPU HCO
  rw [hbl] at HCO
  simp only [List.nil_append] at HPU
  have HBL := Lib.hid hbl
  have BO := Lib.hid (bytesOf'_ok bs)
  have HL2 := Lib.hid (show (bytesOf' bs).length = 2 by rw [bytesOf'_len, hbl])
  clear hbs hbl
  go_enter Try.func8, Try.ntmps8
  go_wp2_with (first
    | (refine Kd.R_make (Kd.int .i64) (w0 := w) w.heap.size 3 rfl (N := 7) rfl 22 _ _ rfl 256 rfl rfl Try.underlying22 (.int .i64 0) 8 info_i64h rfl (by decide) (by omega) 0 (ok := fun _ => True) (okp := fun _ => True) rfl (fun _ hk => hk) trivial (by omega) (by omega) (Below.refl _ _) (Nat.le_refl _) ?_; intro v1 w1 ho hb hg hnew; clear hg hnew; obtain ⟨g1, cap, rfl, hg, hlt, _, hty⟩ := Kd.R_form ho (by rw [rep256]; decide); clear hty; have hcap := (Kd.R_reads' ho).2.1; rw [rep256] at hcap ho ⊢; have ho2 := Kd.own_of_R ho; rw [rep256] at ho2; have h := H.out.new (o := rowO g1 cap (List.replicate 256 0)) hb ⟨own_weaken ho2 (Nat.zero_le _), rfl⟩ (fun k hk => own_base ho2 k hk); obtain ⟨c0, f0⟩ := rowO_cell h 2 (by decide) List.length_replicate; replace H := Lib.hid (show Hold w (w1.setCell ⟨g1, 2, none⟩ (.int .i64 32)) [rowO g1 cap qh] from rowO_store h 2 32); clear h ho ho2 hb)
    | (go_at_call 9; clear c0 f0; (with_reducible refine (hNew_w H.out).mono ?_); rintro e w2 ⟨g, rfl, h⟩; replace H := Lib.hid h; clear h)
    | (go_at_call 10; (with_reducible refine (HPU.out _ _ _ _ _ hcap H.out (fun W bs h => rowO_C h.swap)).mono ?_); rintro e w3 ⟨rfl, h⟩; replace H := Lib.hid h; clear h)
    | (go_at_call 14; (with_reducible refine (hBytes_w H.out (by rw [HBL.out]; decide)).mono ?_); rintro e w4 ⟨A1, c1, rfl, hr, hnil, _, hb⟩; replace H := Lib.hid (H.out.below hb); have P1 := Lib.hid hr; have P2 := Lib.hid hnil; clear hb hr hnil)
    | (go_at_call 17; (with_reducible refine (hNew_r H.out rfl P1.out (by rw [HL2.out]; decide) P2.out).mono ?_); rintro e w5 ⟨g2, rfl, h, _⟩; replace H := Lib.hid h; clear h)
    | (go_at_call 19; (refine (htake_ok g2 _ 0 5 H.out (Nat.zero_le _) (by rw [HL2.out]; decide) BO.out (by decide) (by decide) HDK.out).mono ?_); rintro e w6 ⟨g3, cap3, rfl, hcap3, _, h⟩; replace H := Lib.hid h.third; clear h)
    | (go_at_call 12; (with_reducible refine (hBits_w H.out).mono ?_); rintro e w7 ⟨rfl, rfl⟩; rw [HBL.out]; replace H := Lib.hid H.out.fourth)
    | (go_at_call 16; (with_reducible refine (HCO.out _ _ _ _ hcap H.out (fun W o h => rowO_C h.swap)).mono ?_); rintro e w8 ⟨rfl, h⟩; replace H := Lib.hid h; clear h)
    | (go_at_call 21; (with_reducible refine (ints_at2 qh_len qh_len (rowO_C H.out.third) (rowO_C H.out) hcap3 hcap (by decide) (decide_eq_true rfl)).mono ?_); rintro e w9 ⟨rfl, nd, rfl⟩; replace H := Lib.hid (Hold.drewN H.out nd)))

  go_ret
  exact ⟨rfl, H.out.B⟩
end Go.Proofs.Ytmmfkmkhflieeaa
namespace Go.Proofs.Ytmmfkmkhflieeaa
open Go.RowKit Go.Proofs.YtmmfkmkhflieeaaW.PrintWords Go.Proofs.YtmmfkmkhflieeaaW.PrintLast Go.Proofs.YtmmfkmkhflieeaaW.PrintMore PPr
attribute [local go_sem] max2_int min2_int max_two min_two max_three min_three max_four min_four
set_option linter.unusedSimpArgs false
set_option linter.unusedVariables false
theorem ints_nil (W : World) :
    Calls Try.prog 21 #[.slice none 0 0, .slice none 0 0] W fun e w' => e = .returned (.bool true) ∧ ∃ nd, w' = W.drewN nd :=
  ints_at2 (a := []) (b := []) (n := 0) (m := 0) rfl rfl (Kd.C_nil (Kd.int .i64) _) (Kd.C_nil (Kd.int .i64) _) (Nat.le_refl _) (Nat.le_refl _) (by decide) rfl
set_option maxRecDepth 20000 in
set_option maxHeartbeats 4000000 in
theorem hdtakes_walk (a : Option Addr) (len cap : Nat) (zs : List Int) (log : Int) (w : World) (h : IsRow .u8 w a len cap zs) (y : len * 1 ≤ 140737488351232) (hlog : (Lit.int .i64 log).wf = true) :
    Calls Try.prog 4 #[.slice a len cap, .int .i64 log] w fun e w' => e = .returned (.bool true) ∧ Below w.heap.size w w' := by
  obtain ⟨l, rfl, hr, _, hwf⟩ := h.reads (by omega)
  have R0 := Lib.hid hr
  have BL := Lib.hid (show ∀ x, x ∈ l → 0 ≤ x ∧ x ≤ 255 from wf_u8 hwf)
  have NL := Lib.hid h.nil
  have H := Lib.hid (Hold.start w)
  clear h hr hwf y hlog
  by_cases hs : l.length ≤ 600
  · by_cases hk : log < 1 ∨ 12 < log
    · have HK := Lib.hid hk
      clear hk
      go_enter Try.func4, Try.ntmps4
      go_wp2_with (first
        | (go_at_call 8; (with_reducible refine (awake15 _).mono ?_); rintro e w1 ⟨rfl, hb⟩; replace H := Lib.hid (H.out.below hb); clear hb)
        | (go_at_call 17; (with_reducible refine (hNew_r H.out rfl (R0.out.below H.out.B) (by omega) NL.out).mono ?_); rintro e w1 ⟨g, rfl, h, _⟩; replace H := Lib.hid h; clear h)
        | (go_at_call 18; (with_reducible refine (hNew_q H.out rfl (R0.out.below H.out.B) BL.out (by omega)).mono ?_); rintro e w1 ⟨g2, rfl, h, _⟩; replace H := Lib.hid h; clear h)
        | (go_at_call 19; (with_reducible refine (htake_no _ _ HK.out H.out).mono ?_); rintro e w1 ⟨rfl, h⟩; replace H := Lib.hid h; clear h)
        | (go_at_call 20; (with_reducible refine (rtake_no _ _ HK.out H.out).mono ?_); rintro e w1 ⟨rfl, h⟩; replace H := Lib.hid h; clear h)
        | (go_at_call 21; (with_reducible refine (ints_nil _).mono ?_); rintro e w1 ⟨rfl, nd, rfl⟩; replace H := Lib.hid (Hold.drewN H.out nd).swap)
        | (go_at_call 22; (with_reducible refine (hLeft_r H.out (Nat.zero_le _) (by omega)).mono ?_); rintro e w1 ⟨rfl, h⟩; replace H := Lib.hid h.swap; clear h)
        | (go_at_call 23; (with_reducible refine (hLeft_q H.out (Nat.zero_le _)).mono ?_); rintro e w1 ⟨rfl, h⟩; replace H := Lib.hid h; clear h))
      go_ret
      exact ⟨by simp, H.out.B⟩
    · obtain ⟨k, rfl⟩ : ∃ k : Nat, log = (k : Int) := ⟨log.toNat, by omega⟩
      have k0 : 1 ≤ k := by omega
      have k1 : k ≤ 12 := by omega
      clear hk
      obtain ⟨q, er, t, hR⟩ : ∃ q er t, hdk l (List.replicate 256 0) (p2 k) false 0 0 = (q, er, t) := ⟨_, _, _, rfl⟩
      have ht : t ≤ 8 * l.length := by
        have := hdk_le l 256 0 rfl (List.replicate 256 0) (p2 k) false 0 (Nat.zero_le _)
        rwa [hR] at this
      have HT := Lib.hid ht
      have HRT := Lib.hid (fun W g os h => rtake_any w W g l 0 k os h (Nat.zero_le _) (by omega) k0 k1)
      rw [hR] at HRT
      by_cases he : er = 0
      · subst he
        have HTK := Lib.hid (fun W g os h => htake_ok (w0 := w) (W := W) (os := os) g l 0 k h (Nat.zero_le _) (by omega) BL.out k0 k1 hR)
        clear hR k0 k1 ht
        go_enter Try.func4, Try.ntmps4
        go_wp2_with (first
          | (go_at_call 8; (with_reducible refine (awake15 _).mono ?_); rintro e w1 ⟨rfl, hb⟩; replace H := Lib.hid (H.out.below hb); clear hb)
          | (go_at_call 17; (with_reducible refine (hNew_r H.out rfl (R0.out.below H.out.B) (by omega) NL.out).mono ?_); rintro e w1 ⟨g, rfl, h, _⟩; replace H := Lib.hid h; clear h)
          | (go_at_call 18; (with_reducible refine (hNew_q H.out rfl (R0.out.below H.out.B) BL.out (by omega)).mono ?_); rintro e w1 ⟨g2, rfl, h, _⟩; replace H := Lib.hid h.swap; clear h)
          | (go_at_call 19; (with_reducible refine (HTK.out _ _ _ H.out).mono ?_); rintro e w1 ⟨g3, c3, rfl, hc3, hql, h⟩; have C3 := Lib.hid hc3; have QL := Lib.hid hql; replace H := Lib.hid h.third; clear h hc3 hql)
          | (go_at_call 20; (with_reducible refine (HRT.out _ _ _ H.out).mono ?_); rintro e w1 (⟨_, _, g4, c4, hc4, rfl, h⟩ | ⟨hne, _⟩); rotate_left; (exact absurd rfl hne); have C4 := Lib.hid hc4; replace H := Lib.hid h; clear h hc4)
          | (go_at_call 21; (with_reducible refine (ints_at2 QL.out QL.out (rowO_C H.out.third) (rowO_C H.out) C3.out C4.out (by decide) (decide_eq_true rfl)).mono ?_); rintro e w1 ⟨rfl, nd, rfl⟩; replace H := Lib.hid (Hold.drewN H.out nd).fourth)
          | (go_at_call 22; (with_reducible refine (hLeft_r H.out HT.out (by omega)).mono ?_); rintro e w1 ⟨rfl, h⟩; replace H := Lib.hid h.third; clear h)
          | (go_at_call 23; (with_reducible refine (hLeft_q H.out HT.out).mono ?_); rintro e w1 ⟨rfl, h⟩; replace H := Lib.hid h; clear h))
        go_ret
        exact ⟨by simp, H.out.B⟩
      · have HTK := Lib.hid (fun W g os h => htake_err (w0 := w) (W := W) (os := os) g l 0 k h (Nat.zero_le _) (by omega) BL.out k0 k1 he hR)
        have HE := Lib.hid he
        clear hR k0 k1 ht he
        go_enter Try.func4, Try.ntmps4
        go_wp2_with (first
          | (go_at_call 8; (with_reducible refine (awake15 _).mono ?_); rintro e w1 ⟨rfl, hb⟩; replace H := Lib.hid (H.out.below hb); clear hb)
          | (go_at_call 17; (with_reducible refine (hNew_r H.out rfl (R0.out.below H.out.B) (by omega) NL.out).mono ?_); rintro e w1 ⟨g, rfl, h, _⟩; replace H := Lib.hid h; clear h)
          | (go_at_call 18; (with_reducible refine (hNew_q H.out rfl (R0.out.below H.out.B) BL.out (by omega)).mono ?_); rintro e w1 ⟨g2, rfl, h, _⟩; replace H := Lib.hid h.swap; clear h)
          | (go_at_call 19; (with_reducible refine (HTK.out _ _ _ H.out).mono ?_); rintro e w1 ⟨rfl, h⟩; replace H := Lib.hid h.swap; clear h)
          | (go_at_call 20; (with_reducible refine (HRT.out _ _ _ H.out).mono ?_); rintro e w1 (⟨hz, _⟩ | ⟨_, rfl, h⟩); (exact absurd hz HE.out); replace H := Lib.hid h; clear h)
          | (go_at_call 21; (with_reducible refine (ints_nil _).mono ?_); rintro e w1 ⟨rfl, nd, rfl⟩; replace H := Lib.hid (Hold.drewN H.out nd).swap)
          | (go_at_call 22; (with_reducible refine (hLeft_r H.out HT.out (by omega)).mono ?_); rintro e w1 ⟨rfl, h⟩; replace H := Lib.hid h.swap; clear h)
          | (go_at_call 23; (with_reducible refine (hLeft_q H.out HT.out).mono ?_); rintro e w1 ⟨rfl, h⟩; replace H := Lib.hid h; clear h))
        go_ret
        exact ⟨by simp, H.out.B⟩
  · go_enter Try.func4, Try.ntmps4
    go_wp2_with (go_at_call 8; (with_reducible refine (awake15 _).mono ?_); rintro e w1 ⟨rfl, hb⟩; replace H := Lib.hid (H.out.below hb); clear hb)
    go_ret
    exact ⟨rfl, H.out.B⟩
end Go.Proofs.Ytmmfkmkhflieeaa
