/- The layer header's laws: the chapter's example, and HeaderTakes. The layer header in plain: what is taken is normalized and has one form; what is cut off is too short; how many bits there are. The layer header's laws: HeaderCost; and what HeaderBack and HeaderOne need. -/
import Derived.Test.YtmmfkmkhflieeaaHa
import Derived.Test.YtmmfkmkhflieeaaHe
import Derived.Deep.RegionHeld3
import Derived.Test.YtmmfkmkhflieeaaPPrx10
namespace Go.Proofs.Ytmmfkmkhflieeaa
open Go.RowKit Go.Proofs.YtmmfkmkhflieeaaW.PrintWords Go.Proofs.YtmmfkmkhflieeaaW.PrintLast Go.Proofs.YtmmfkmkhflieeaaW.PrintMore PPr
attribute [local go_sem] max2_int min2_int max_two min_two max_three min_three max_four min_four
set_option linter.unusedSimpArgs false
set_option linter.unusedVariables false
section
variable {w0 W : World} {os : List Ob}
theorem rowO_C {g cap : Nat} {q : List Int} (H : Hold w0 W (rowO g cap q :: os)) : Kd.C (Kd.int .i64) W (some ⟨g, 0, none⟩) 256 q := by
  obtain ⟨A, c, h1, _, h3⟩ := own_reads' (rowO_own H)
  cases h1
  exact Kd.C_of_reads (readsInt_of.1 h3)
theorem ints_at2 {A B : Option Addr} {n m c d : Nat} {a b : List Int} (hn : a.length = n) (hm : b.length = m) (hA : Kd.C (Kd.int .i64) W A n a) (hB : Kd.C (Kd.int .i64) W B m b) (hc : n ≤ c) (hd : m ≤ d) (hb : n ≤ 4611686018427387000) {r : Bool} (hr : decide (a = b) = r) :
    Calls Try.prog 21 #[.slice A n c, .slice B m d] W fun e w' => e = .returned (.bool r) ∧ ∃ nd, w' = W.drewN nd := by
  subst hn hm hr
  obtain ⟨k, hk⟩ := (ints_ev a b hb).rounds
  exact (puncheonref01_Ints.calls k A c a B d b _ W hA hc hB hd hk).mono fun e w' ⟨h1, nd, h2⟩ => ⟨h1, nd, h2⟩
end
def qh : List Int := (List.replicate 256 (0 : Int)).set 2 32
theorem qh_len : qh.length = 256 := by unfold qh; rw [List.length_set, List.length_replicate]
theorem qh_sum : qh.sum = 32 := by decide +kernel
theorem qh_N : IsN qh 5 := ⟨by omega, by omega, by decide +kernel, qh_sum⟩
theorem qh_bits : (hdb qh 0).length = 14 := by decide +kernel
theorem hdk_q {q : List Int} {r : Nat} (hN : IsN q r) {l : List Int} (hB : Beg l (hdb q 0)) : hdk l (List.replicate 256 0) (p2 r) false 0 0 = (q, 0, (hdb q 0).length) := by
  obtain ⟨hl, hnn, _⟩ := (rightB_iff q).1 hN.R
  have hsm : q.sum = p2 r := by rw [hN.sm]; unfold p2; simp
  have hp := p2_mono hN.r1
  rw [show p2 12 = 4096 by decide] at hp
  have h := hdk_put hB q hl hnn (by omega) 256 0 rfl 0 [] false (Nat.zero_le _) (by simp) (by intro h; cases h)
  rw [qT_0, show rs q 0 = p2 r by unfold rs; rw [List.drop_zero]; exact hsm, Nat.zero_add] at h
  exact h
theorem hdk_le (l : List Int) : ∀ (d s : Nat), 256 - s = d → ∀ (q : List Int) (left : Int) (again : Bool) (t : Nat), t ≤ 8 * l.length → (hdk l q left again s t).2.2 ≤ 8 * l.length := by
  intro d
  induction d using Nat.strongRecOn with
  | _ d ih =>
  intro s hs q left again t ht
  rw [hdk]
  have hb : (butk (8 * l.length) t (numAt l t (widN left)) left).2.2 ≤ 8 * l.length := butk_le rfl ht
  split
  · exact ht
  · split
    · exact ht
    · split
      · exact hb
      · split
        · exact hb
        · split
          · split
            · exact hb
            · split
              · exact takeR_le rfl hb
              · exact ih _ (by omega) _ rfl _ _ _ _ (takeR_le rfl hb)
          · exact ih _ (by omega) _ rfl _ _ _ _ hb
section
variable {w0 W : World} {os : List Ob}
theorem hPut_256 {g : Nat} {bs : List Bool} (H : Hold w0 W (wrO g bs :: os)) (hb : bs.length ≤ 1000000) {A : Option Addr} {c : Nat} {q : List Int} {r : Nat} (hN : IsN q r) (hc : 256 ≤ c) (HQ : ∀ W bs, Hold w0 W (wrO g bs :: os) → Kd.C (Kd.int .i64) W A 256 q) :
    Calls Try.prog 10 #[.pointer (some ⟨g, 0, none⟩), .slice A 256 c] W fun e w' => e = .returned (.bool true) ∧ Hold w0 w' (wrO g (bs ++ hdb q 0) :: os) := by
  have hl := ((rightB_iff q).1 hN.R).1
  have := hPut_hd H hb hN (by rw [hl]; exact hc) (by rw [hl]; exact HQ)
  rwa [hl] at this
theorem hCost_256 (H : Hold w0 W os) {A : Option Addr} {c : Nat} {q : List Int} {r : Nat} (hN : IsN q r) (hc : 256 ≤ c) (HQ : ∀ W o, Hold w0 W (o :: os) → Kd.C (Kd.int .i64) W A 256 q) :
    Calls Try.prog 16 #[.slice A 256 c] W fun e w' => e = .returned (.int .i64 ((hdb q 0).length : Int)) ∧ Hold w0 w' os := by
  have hl := ((rightB_iff q).1 hN.R).1
  have := hCost_hd H hN (by rw [hl]; exact hc) (by rw [hl]; exact HQ)
  rwa [hl] at this
end
set_option maxRecDepth 20000 in
set_option maxHeartbeats 2000000 in
theorem awake15 (w : World) :
    Calls Try.prog 8 #[] w fun e w' => e = .returned (.bool true) ∧ Below w.heap.size w w' := by
  have H := Lib.hid (Hold.start w)
  obtain ⟨bs, hbs⟩ : ∃ bs, hdb qh 0 = bs := ⟨_, rfl⟩
  have hbl : bs.length = 14 := by rw [← hbs]; exact qh_bits
  have HDK := Lib.hid (show hdk (bytesOf' bs) (List.replicate 256 0) (p2 5) false 0 0 = (qh, 0, 14) by rw [hdk_q qh_N (by rw [hbs]; exact beg_self bs), hbs, hbl])
  have HPU := Lib.hid (fun W g os A c hc h HQ => hPut_256 (w0 := w) (W := W) (g := g) (bs := []) (os := os) h (by simp) (A := A) (c := c) qh_N hc HQ)
  have HCO := Lib.hid (fun W os A c hc h HQ => hCost_256 (w0 := w) (W := W) (os := os) h (A := A) (c := c) qh_N hc HQ)
  rw [hbs] at HPU HCO
  rw [hbl] at HCO
  simp only [List.nil_append] at HPU
  have HBL := Lib.hid hbl
  have BO := Lib.hid (bytesOf'_ok bs)
  have HL2 := Lib.hid (show (bytesOf' bs).length = 2 by rw [bytesOf'_len, hbl])
  clear hbs hbl
  go_enter Try.func8, Try.ntmps8
  go_wp2_with (first
    | (refine Kd.R_make (Kd.int .i64) (w0 := w) w.heap.size 3 rfl (N := 7) rfl 22 _ _ rfl 256 rfl rfl Try.underlying22 (.int .i64 0) 8 info_i64h rfl (by decide) (by omega) 0 (ok := fun _ => True) (okp := fun _ => True) rfl (fun _ hk => hk) trivial (by omega) (by omega) (Below.refl _ _) (Nat.le_refl _) ?_; intro v1 w1 ho hb hg hnew; clear hg hnew; obtain ⟨g1, cap, rfl, hg, hlt, _, hty⟩ := Kd.R_form ho (by rw [rep256]; decide); clear hty; have hcap := (Kd.R_reads' ho).2.1; rw [rep256] at hcap ho ⊢; have ho2 := Kd.own_of_R ho; rw [rep256] at ho2; have h := H.out.new (o := rowO g1 cap (List.replicate 256 0)) hb ⟨own_weaken ho2 (Nat.zero_le _), rfl⟩ (fun k hk => own_base ho2 k hk); obtain ⟨c0, f0⟩ := rowO_cell h 2 (by decide) List.length_replicate; replace H := Lib.hid (show Hold w (w1.setCell ⟨g1, 2, none⟩ (.int .i64 32)) [rowO g1 cap qh] from rowO_store h 2 32); clear h ho ho2 hb)
    | (go_at_call 9; clear c0 f0; (with_reducible refine (hNew_w H.out).mono ?_); rintro e w2 ⟨g, rfl, h⟩; replace H := Lib.hid h; clear h)
    | (go_at_call 10; (with_reducible refine (HPU.out _ _ _ _ _ hcap H.out (fun W bs h => rowO_C h.swap)).mono ?_); rintro e w3 ⟨rfl, h⟩; replace H := Lib.hid h; clear h)
    | (go_at_call 14; (with_reducible refine (hBytes_w H.out (by rw [HBL.out]; decide)).mono ?_); rintro e w4 ⟨A1, c1, rfl, hr, hnil, _, hb⟩; replace H := Lib.hid (H.out.below hb); have P1 := Lib.hid hr; have P2 := Lib.hid hnil; clear hb hr hnil)
    | (go_at_call 17; (with_reducible refine (hNew_r H.out rfl P1.out (by rw [HL2.out]; decide) P2.out).mono ?_); rintro e w5 ⟨g2, rfl, h, _⟩; replace H := Lib.hid h; clear h)
    | (go_at_call 19; (refine (htake_ok g2 _ 0 5 H.out (Nat.zero_le _) (by rw [HL2.out]; decide) BO.out (by decide) (by decide) HDK.out).mono ?_); rintro e w6 ⟨g3, cap3, rfl, hcap3, _, h⟩; replace H := Lib.hid h.third; clear h)
    | (go_at_call 12; (with_reducible refine (hBits_w H.out).mono ?_); rintro e w7 ⟨rfl, rfl⟩; rw [HBL.out]; replace H := Lib.hid H.out.fourth)
    | (go_at_call 16; (with_reducible refine (HCO.out _ _ _ _ hcap H.out (fun W o h => rowO_C h.swap)).mono ?_); rintro e w8 ⟨rfl, h⟩; replace H := Lib.hid h; clear h)
    | (go_at_call 21; (with_reducible refine (ints_at2 qh_len qh_len (rowO_C H.out.third) (rowO_C H.out) hcap3 hcap (by decide) (decide_eq_true rfl)).mono ?_); rintro e w9 ⟨rfl, nd, rfl⟩; replace H := Lib.hid (Hold.drewN H.out nd)))

  go_ret
  exact ⟨rfl, H.out.B⟩
end Go.Proofs.Ytmmfkmkhflieeaa
namespace Go.Proofs.Ytmmfkmkhflieeaa
open Go.RowKit Go.Proofs.YtmmfkmkhflieeaaW.PrintWords Go.Proofs.YtmmfkmkhflieeaaW.PrintLast Go.Proofs.YtmmfkmkhflieeaaW.PrintMore
set_option linter.unusedSimpArgs false
set_option linter.unusedVariables false
/-! what is taken has one form -/
theorem tkR_one (l : List Int) (most : Int) : ∀ (j : Nat) (n : Int) (t : Nat), 8 * l.length - t = j → t ≤ 8 * l.length → ∀ {v e : Int} {t' : Nat}, tkR l most n t = (v, e, t') →
    (e = 0 ∧ ∃ m : Nat, v = n + m ∧ v ≤ most ∧ t' = t + (runBits m).length ∧ (bitsOf l).take t ++ runBits m = (bitsOf l).take t') ∨ (v = 0 ∧ (e = 3 ∨ e = 13)) := by
  intro j
  induction j using Nat.strongRecOn with
  | _ j ih =>
  intro n t hj ht v e t' h
  rw [tkR] at h
  by_cases hc : t + 2 ≤ 8 * l.length
  · rw [dif_pos hc] at h
    have hx := num2_bd l t
    have hb := bitsN_numAt l t 2 hc
    obtain ⟨x, hX⟩ : ∃ x : Nat, numAt l t 2 = x := ⟨(numAt l t 2).toNat, by omega⟩
    rw [hX] at h hx hb
    by_cases h1 : most < n + x
    · rw [if_pos h1] at h
      simp only [Prod.mk.injEq] at h
      exact .inr ⟨h.1.symm, .inr h.2.1.symm⟩
    · rw [if_neg h1] at h
      by_cases h2 : (x : Int) < 3
      · rw [if_pos h2] at h
        simp only [Prod.mk.injEq] at h
        rw [bitsN_small x (by omega)] at hb
        have hl := runBits_len x
        refine .inl ⟨h.2.1.symm, x, h.1.symm, by omega, by omega, ?_⟩
        rw [← h.2.2]
        exact hb
      · rw [if_neg h2] at h
        obtain rfl : x = 3 := by omega
        rcases ih (8 * l.length - (t + 2)) (by omega) _ (t + 2) rfl hc h with ⟨he, m, hv, hm, ht', hbits⟩ | h'
        · refine .inl ⟨he, m + 3, by omega, hm, by simp [runBits]; omega, ?_⟩
          rw [← hbits, ← hb, show ((3 : Nat) : Int) = 3 from rfl, bitsN_three]
          simp [runBits]
        · exact .inr h'
  · rw [dif_neg hc] at h
    simp only [Prod.mk.injEq] at h
    exact .inr ⟨h.1.symm, .inl h.2.1.symm⟩
theorem takeR_one {l : List Int} {most : Int} {t : Nat} {v e : Int} {t' : Nat} (h : takeR l most t = (v, e, t')) (ht : t ≤ 8 * l.length) (h0 : 0 ≤ most) (h1 : most ≤ 255) :
    (e = 0 ∧ ∃ m : Nat, v = m ∧ (m : Int) ≤ most ∧ t' = t + (runBits m).length ∧ (bitsOf l).take t ++ runBits m = (bitsOf l).take t') ∨ (v = 0 ∧ (e = 3 ∨ e = 13)) := by
  unfold takeR at h
  rw [if_pos ⟨h0, h1⟩] at h
  rcases tkR_one l most _ 0 t rfl ht h with ⟨he, m, hv, hm, ht, hb⟩ | h'
  · exact .inl ⟨he, m, by omega, by omega, by omega, hb⟩
  · exact .inr h'
theorem butk_one {l : List Int} {t : Nat} {left : Int} {v e : Int} {t' : Nat} (h : butk (8 * l.length) t (numAt l t (widN left)) left = (v, e, t')) (h0 : 1 ≤ left) (h1 : left ≤ 4096) :
    (e = 0 ∧ 0 ≤ v ∧ v ≤ left ∧ t' = t + widN left ∧ t + widN left ≤ 8 * l.length ∧ (bitsOf l).take t ++ bitsN v (widN left) = (bitsOf l).take t') ∨ (e = 3 ∨ e = 13) := by
  unfold butk at h
  rw [if_pos ⟨h0, h1⟩] at h
  have hb := numAt_bd l t (widN left)
  by_cases h2 : t + widN left ≤ 8 * l.length
  · rw [if_pos h2] at h
    have hN := bitsN_numAt l t (widN left) h2
    by_cases h3 : numAt l t (widN left) ≤ left
    · rw [if_pos h3] at h
      simp only [Prod.mk.injEq] at h
      obtain ⟨rfl, rfl, rfl⟩ := h
      exact .inl ⟨rfl, hb.1, h3, rfl, h2, hN⟩
    · rw [if_neg h3] at h
      simp only [Prod.mk.injEq] at h
      exact .inr (.inr h.2.1.symm)
  · rw [if_neg h2] at h
    simp only [Prod.mk.injEq] at h
    exact .inr (.inl h.2.1.symm)
theorem takeR_ends {l : List Int} {most : Int} {t : Nat} (ht : t ≤ 8 * l.length) (h0 : 0 ≤ most) (h1 : most ≤ 255) (he : (takeR l most t).2.1 ≠ 0) : (takeR l most t).2.1 = 3 ∨ (takeR l most t).2.1 = 13 := by
  rcases takeR_one (v := (takeR l most t).1) (e := (takeR l most t).2.1) (t' := (takeR l most t).2.2) rfl ht h0 h1 with ⟨h, _⟩ | ⟨_, h⟩
  · exact absurd h he
  · exact h
/-- what is known of counts that are taken -/
structure Tkn (l : List Int) (q0 : List Int) (left : Int) (again : Bool) (s t : Nat) (q : List Int) (t1 : Nat) : Prop where
  len : q.length = 256
  pre : q.take s = q0.take s
  nn : ∀ x, x ∈ q.drop s → 0 ≤ x
  sm : rs q s = left
  ag : again = true → 0 < left → q.getD s 0 ≠ 0
  bits : (bitsOf l).take t ++ hdb q s = (bitsOf l).take t1
  le : t1 ≤ 8 * l.length
theorem rs_of (q : List Int) (s : Nat) {X : List Int} (h : q.drop s = X) : rs q s = X.sum := by unfold rs; rw [h]
theorem take_getD {q q0 : List Int} {s : Nat} (h : q.take s = q0.take s) (i : Nat) (hi : i < s) : q.getD i 0 = q0.getD i 0 := by
  have := congrArg (fun z => z.getD i 0) h
  simp only [List.getD_eq_getElem?_getD, List.getElem?_take_of_lt hi] at this
  rw [List.getD_eq_getElem?_getD, List.getD_eq_getElem?_getD]; exact this
theorem zr_of (q : List Int) : ∀ (n s : Nat), s + n < 256 → (∀ i, s ≤ i → i < s + n → q.getD i 0 = 0) → q.getD (s + n) 0 ≠ 0 → zr q s = n
  | 0, s, h, _, h1 => by rw [zr, if_pos (by omega), if_neg (by simpa using h1)]
  | n + 1, s, h, h0, h1 => by
    rw [zr, if_pos (by omega), if_pos (h0 s (by omega) (by omega)), zr_of q n (s + 1) (by omega) (fun i a b => h0 i (by omega) (by omega)) (by rw [show s + 1 + n = s + (n + 1) by omega]; exact h1)]
theorem rs_zrun (q : List Int) (hl : q.length = 256) : ∀ (n s : Nat), s + n ≤ 256 → (∀ i, s ≤ i → i < s + n → q.getD i 0 = 0) → rs q s = rs q (s + n)
  | 0, s, _, _ => rfl
  | n + 1, s, h, h0 => by
    rw [rs_succ q s (by omega), h0 s (by omega) (by omega), rs_zrun q hl n (s + 1) (by omega) (fun i a b => h0 i (by omega) (by omega)), show s + 1 + n = s + (n + 1) by omega]
    omega
theorem nn_drop {q : List Int} {s s' : Nat} (hl : q.length = 256) (hs : s ≤ s') (h : ∀ x, x ∈ q.drop s' → 0 ≤ x) (h0 : ∀ i, s ≤ i → i < s' → 0 ≤ q.getD i 0) : ∀ x, x ∈ q.drop s → 0 ≤ x := by
  intro x hx
  obtain ⟨i, hi, rfl⟩ := List.getElem_of_mem hx
  rw [List.length_drop] at hi
  rw [List.getElem_drop]
  by_cases c : s + i < s'
  · have := h0 (s + i) (by omega) c
    rwa [List.getD_eq_getElem?_getD, List.getElem?_eq_getElem (by omega)] at this
  · refine h _ ?_
    rw [List.mem_iff_getElem]
    refine ⟨s + i - s', by rw [List.length_drop]; omega, ?_⟩
    rw [List.getElem_drop]
    congr 1
    omega
theorem hdk_one (l : List Int) : ∀ (d s : Nat), s + d = 256 → ∀ (q0 : List Int) (left : Int) (again : Bool) (t : Nat), q0.length = 256 → (∀ i, s ≤ i → q0.getD i 0 = 0) → 0 ≤ left → left ≤ 4096 → t ≤ 8 * l.length → ∀ {q : List Int} {e : Int} {t1 : Nat}, hdk l q0 left again s t = (q, e, t1) →
    (e = 0 ∧ Tkn l q0 left again s t q t1) ∨ (q = [] ∧ (e = 3 ∨ e = 13)) := by
  intro d
  induction d using Nat.strongRecOn with
  | _ d ih =>
  intro s hd q0 left again t hl hz h0 h4 ht q e t1 h
  rw [hdk] at h
  by_cases c1 : left ≤ 0
  · rw [if_pos c1] at h
    simp only [Prod.mk.injEq] at h
    obtain ⟨rfl, rfl, rfl⟩ := h
    have hr : rs q0 s = 0 := by
      rw [rs_zrun q0 hl d s (by omega) (fun i a b => hz i a), hd, rs_end q0 hl 256 (by omega)]
    refine .inl ⟨rfl, hl, rfl, ?_, by omega, fun _ h => by omega, by rw [hdb, if_pos (by omega), List.append_nil], ht⟩
    refine nn_drop hl (show s ≤ 256 by omega) (by rw [List.drop_eq_nil_of_le (by omega)]; simp) (fun i a b => by rw [hz i a]; omega)
  · rw [if_neg c1] at h
    by_cases c2 : 256 ≤ s
    · rw [dif_pos c2] at h
      simp only [Prod.mk.injEq] at h
      exact .inr ⟨h.1.symm, .inr h.2.1.symm⟩
    · rw [dif_neg c2] at h
      obtain ⟨v, e1, t2, hb⟩ : ∃ v e1 t2, butk (8 * l.length) t (numAt l t (widN left)) left = (v, e1, t2) := ⟨_, _, _, rfl⟩
      have hone := butk_one hb (by omega) h4
      rw [hb] at h
      simp only [] at h
      by_cases c3 : e1 = 0
      · subst c3
        rw [if_neg (by simp)] at h
        rcases hone with ⟨_, v0, v1, ht2, ht3, hbits⟩ | hE
        · by_cases c4 : again = true ∧ v = 0
          · rw [if_pos c4] at h
            simp only [Prod.mk.injEq] at h
            exact .inr ⟨h.1.symm, .inr h.2.1.symm⟩
          · rw [if_neg c4] at h
            by_cases c5 : v = 0
            · rw [if_pos c5] at h
              by_cases c6 : 255 ≤ s
              · rw [if_pos c6] at h
                simp only [Prod.mk.injEq] at h
                exact .inr ⟨h.1.symm, .inr h.2.1.symm⟩
              · rw [if_neg c6] at h
                obtain ⟨v2, e2, t3, hr⟩ : ∃ v2 e2 t3, takeR l (254 - (s : Int)) t2 = (v2, e2, t3) := ⟨_, _, _, rfl⟩
                have hone2 := takeR_one hr (by omega) (by omega) (by omega)
                rw [hr] at h
                simp only [] at h
                by_cases c7 : e2 = 0
                · subst c7
                  rw [if_neg (by simp)] at h
                  rcases hone2 with ⟨_, m, rfl, hm, ht4, hbits2⟩ | ⟨_, hE⟩
                  · subst c5
                    rw [Int.toNat_natCast] at h
                    have hset : q0.set s 0 = q0 := by
                      apply ext_getDE
                      · rw [List.length_set]
                      · intro i hi
                        by_cases c : i = s
                        · subst c
                          rw [List.getD_eq_getElem?_getD, List.getElem?_set_self (by omega), hz i (by omega)]; rfl
                        · rw [List.getD_eq_getElem?_getD, List.getElem?_set_ne (by omega), ← List.getD_eq_getElem?_getD]
                    rw [hset] at h
                    have ht5 : t3 ≤ 8 * l.length := takeR_le hr (by omega)
                    rcases ih (256 - (s + m + 1)) (by omega) (s + m + 1) (by omega) q0 left true t3 hl (fun i a => hz i (by omega)) h0 h4 ht5 h with ⟨he, T⟩ | hh
                    · refine .inl ⟨he, ?_⟩
                      have hT := T.pre
                      have hzq : ∀ i, s ≤ i → i < s + m + 1 → q.getD i 0 = 0 := fun i a b => by rw [take_getD hT i b]; exact hz i a
                      have hne := T.ag rfl (by omega)
                      have hzr : zr q (s + 1) = m := by
                        refine zr_of q m (s + 1) ?_ (fun i a b => hzq i (by omega) (by omega)) (by rw [show s + 1 + m = s + m + 1 by omega]; exact hne)
                        rcases Nat.lt_or_ge (s + 1 + m) 256 with c | c
                        · exact c
                        · rw [List.getD_eq_getElem?_getD, List.getElem?_eq_none (by rw [T.len]; omega)] at hne
                          exact absurd rfl hne
                      have hrs : rs q s = left := by
                        rw [rs_zrun q T.len (m + 1) s (by omega) (fun i a b => hzq i a (by omega))]; exact T.sm
                      refine ⟨T.len, ?_, nn_drop T.len (by omega) T.nn (fun i a b => by rw [hzq i a b]; omega), hrs, fun ha _ => ?_, ?_, T.le⟩
                      · have := congrArg (List.take s) hT
                        rwa [List.take_take, List.take_take, show min s (s + m + 1) = s by omega] at this
                      · exact absurd ⟨ha, rfl⟩ c4
                      · rw [hdb, hrs, if_neg c1, dif_neg c2, hzq s (by omega) (by omega), if_pos rfl, hzr, ← T.bits, ← hbits2, ← hbits, show s + 1 + m = s + m + 1 by omega]
                        simp only [List.append_assoc]
                    · exact .inr hh
                  · omega
                · rw [if_pos c7] at h
                  simp only [Prod.mk.injEq] at h
                  obtain ⟨rfl, rfl, rfl⟩ := h
                  rcases hone2 with ⟨hE, _⟩ | ⟨_, hE⟩
                  · exact absurd hE c7
                  · exact .inr ⟨rfl, hE⟩
            · rw [if_neg c5] at h
              rcases ih (256 - (s + 1)) (by omega) (s + 1) (by omega) (q0.set s v) (left - v) false t2 (by rw [List.length_set]; exact hl) (fun i a => by rw [List.getD_eq_getElem?_getD, List.getElem?_set_ne (by omega), ← List.getD_eq_getElem?_getD]; exact hz i (by omega)) (by omega) (by omega) (by omega) h with ⟨he, T⟩ | hh
              · refine .inl ⟨he, ?_⟩
                have hT := T.pre
                have hv : q.getD s 0 = v := by
                  rw [take_getD hT s (by omega), List.getD_eq_getElem?_getD, List.getElem?_set_self (by omega)]; rfl
                have hrs : rs q s = left := by
                  rw [rs_succ q s (by rw [T.len]; omega), T.sm, hv]; omega
                refine ⟨T.len, ?_, nn_drop T.len (by omega) T.nn (fun i a b => by rw [show i = s by omega, hv]; exact v0), hrs, fun _ _ => by rw [hv]; exact c5, ?_, T.le⟩
                · have := congrArg (List.take s) hT
                  rw [List.take_take, List.take_take, show min s (s + 1) = s by omega] at this
                  rw [this]
                  exact List.take_set_of_le (Nat.le_refl _)
                · rw [hdb, hrs, if_neg c1, dif_neg c2, hv, if_neg c5, ← T.bits, ← hbits]
                  simp only [List.append_assoc]
              · exact .inr hh
        · omega
      · rw [if_pos c3] at h
        simp only [Prod.mk.injEq] at h
        obtain ⟨rfl, rfl, rfl⟩ := h
        rcases hone with ⟨hE, _⟩ | hE
        · exact absurd hE c3
        · exact .inr ⟨rfl, hE⟩
/-- what Take takes, of a log -/
theorem hdk_log (l : List Int) (k : Nat) (k0 : 1 ≤ k) (k1 : k ≤ 12) {q : List Int} {e : Int} {t1 : Nat} (h : hdk l (List.replicate 256 0) (p2 k) false 0 0 = (q, e, t1)) :
    (e = 0 ∧ IsN q k ∧ hdb q 0 = (bitsOf l).take t1 ∧ t1 ≤ 8 * l.length) ∨ (q = [] ∧ (e = 3 ∨ e = 13)) := by
  have hp := p2_mono k1
  rw [show p2 12 = 4096 by decide] at hp
  have hp0 := p2_pos k
  rcases hdk_one l 256 0 rfl _ (p2 k) false 0 List.length_replicate (fun i _ => by rw [List.getD_eq_getElem?_getD, List.getElem?_replicate]; split <;> rfl) (by omega) hp (by omega) h with ⟨he, T⟩ | h
  · refine .inl ⟨he, ?_, by have := T.bits; rwa [List.take_zero, List.nil_append] at this, T.le⟩
    have hs : q.sum = p2 k := by have := T.sm; unfold rs at this; rwa [List.drop_zero] at this
    refine ⟨k0, k1, (rightB_iff q).2 ⟨T.len, by have := T.nn; rwa [List.drop_zero] at this, by omega⟩, by rw [hs]; unfold p2; simp⟩
  · exact .inr h
theorem p2_inj {a b : Nat} (h : p2 a = p2 b) : a = b := by
  rcases Nat.lt_trichotomy a b with c | c | c
  · have := p2_mono (show a + 1 ≤ b from c); rw [p2_succ] at this; have := p2_pos a; omega
  · exact c
  · have := p2_mono (show b + 1 ≤ a from c); rw [p2_succ] at this; have := p2_pos b; omega
theorem IsN.one {q : List Int} {a b : Nat} (ha : IsN q a) (hb : IsN q b) : a = b := by
  have h1 : q.sum = p2 a := by rw [ha.sm]; unfold p2; simp
  have h2 : q.sum = p2 b := by rw [hb.sm]; unfold p2; simp
  exact p2_inj (by omega)
/-! what is cut off is too short -/
structure Cut (l : List Int) (bs : List Bool) : Prop where
  lt : 8 * l.length < bs.length
  num : ∀ (t n : Nat) (v : Int) (r : List Bool), t + n ≤ 8 * l.length → 0 ≤ v → v < pw n → bs.drop t = bitsN v n ++ r → numAt l t n = v
theorem cut_take (bs : List Bool) (m : Nat) (h : m < (bytesOf' bs).length) : Cut ((bytesOf' bs).take m) bs := by
  have hl := bytesOf'_len bs
  have e : ((bytesOf' bs).take m).length = m := by rw [List.length_take]; omega
  refine ⟨by rw [e]; omega, fun t n v r ht h0 h1 hd => ?_⟩
  rw [← numAt_app ((bytesOf' bs).take m) ((bytesOf' bs).drop m) t n ht, List.take_append_drop]
  exact (beg_self bs).num t n v r (by rw [e] at ht; omega) h0 h1 hd
theorem butk_cut {l : List Int} {bs : List Bool} (hB : Cut l bs) (t : Nat) (v left : Int) (r : List Bool) (ht : t ≤ 8 * l.length) (hc : canB v left) (hd : bs.drop t = bitsN v (widN left) ++ r) :
    (t + widN left ≤ 8 * l.length ∧ butk (8 * l.length) t (numAt l t (widN left)) left = (v, 0, t + widN left)) ∨ butk (8 * l.length) t (numAt l t (widN left)) left = (0, 3, t) := by
  obtain ⟨h1, h2, h3, h4⟩ := hc
  obtain ⟨_, _, b3, b4, _⟩ := widN_bd h1 h2
  by_cases c : t + widN left ≤ 8 * l.length
  · have e := hB.num t (widN left) v r c h3 (by have : p2 (widN left) = pw (widN left) := rfl; omega) hd
    refine .inl ⟨c, ?_⟩
    unfold butk
    rw [if_pos ⟨h1, h2⟩, if_pos c, e, if_pos h4]
  · right
    unfold butk
    rw [if_pos ⟨h1, h2⟩, if_neg c]
theorem tkR_cut {l : List Int} {bs : List Bool} (hB : Cut l bs) (most : Int) : ∀ (m : Nat) (n : Int) (t : Nat) (r : List Bool), t ≤ 8 * l.length → bs.drop t = runBits m ++ r → n + m ≤ most →
    (t + (runBits m).length ≤ 8 * l.length ∧ tkR l most n t = (n + m, 0, t + (runBits m).length)) ∨ ∃ t', tkR l most n t = (0, 3, t') := by
  intro m
  induction m using Nat.strongRecOn with
  | _ m ih =>
  intro n t r ht hd hm
  have hL := runBits_len m
  by_cases c : t + 2 ≤ 8 * l.length
  · rcases Nat.lt_or_ge m 3 with h3 | h3
    · have e2 : (runBits m).length = 2 := by omega
      have hN := hB.num t 2 (m : Int) r c (by omega) (by rw [show pw 2 = 4 by decide]; omega) (by rw [bitsN_small m h3]; exact hd)
      refine .inl ⟨by omega, ?_⟩
      rw [tkR, dif_pos c, hN, if_neg (by omega), if_pos (by omega), e2]
    · obtain ⟨k, rfl⟩ : ∃ k, m = k + 3 := ⟨m - 3, by omega⟩
      have hd2 : bs.drop t = [true, true] ++ (runBits k ++ r) := by rw [hd]; simp [runBits]
      have hN := hB.num t 2 3 (runBits k ++ r) c (by omega) (by rw [show pw 2 = 4 by decide]; omega) (by rw [bitsN_three]; exact hd2)
      have hlt := hB.lt
      obtain ⟨h4, hd3⟩ := drop_len (show t ≤ bs.length by omega) hd2
      have hLk := runBits_len k
      rcases ih k (by omega) (n + 3) (t + 2) r c (by simpa using hd3) (by omega) with ⟨i1, i2⟩ | ⟨t', i2⟩
      · refine .inl ⟨by omega, ?_⟩
        rw [tkR, dif_pos c, hN, if_neg (by omega), if_neg (by decide), i2]
        simp only [Prod.mk.injEq]
        refine ⟨by omega, trivial, by omega⟩
      · refine .inr ⟨t', ?_⟩
        rw [tkR, dif_pos c, hN, if_neg (by omega), if_neg (by decide), i2]
  · exact .inr ⟨t, by rw [tkR, dif_neg c]⟩
theorem takeR_cut {l : List Int} {bs : List Bool} (hB : Cut l bs) (most : Int) (m t : Nat) (r : List Bool) (ht : t ≤ 8 * l.length) (hd : bs.drop t = runBits m ++ r) (hm : (m : Int) ≤ most) (h255 : most ≤ 255) :
    (t + (runBits m).length ≤ 8 * l.length ∧ takeR l most t = ((m : Int), 0, t + (runBits m).length)) ∨ ∃ t', takeR l most t = (0, 3, t') := by
  unfold takeR
  rw [if_pos ⟨by omega, h255⟩]
  have := tkR_cut hB most m 0 t r ht hd (by omega)
  simpa using this
theorem hdk_cut {l : List Int} {bs : List Bool} (hB : Cut l bs) (q : List Int) (hl : q.length = 256) (hn : ∀ x, x ∈ q → 0 ≤ x) (hs4 : q.sum ≤ 4096) : ∀ (d s : Nat), s + d = 256 → ∀ (q0 : List Int) (t : Nat) (again : Bool), t ≤ 8 * l.length → bs.drop t = hdb q s → (again = true → q.getD s 0 ≠ 0) →
    ∃ t', hdk l q0 (rs q s) again s t = ([], 3, t') := by
  intro d
  induction d using Nat.strongRecOn with
  | _ d ih =>
  intro s hsd q0 t again ht hd hag
  have hle := rs_le q hn s
  have hlt := hB.lt
  rw [hdk]
  by_cases c1 : rs q s ≤ 0
  · rw [hdb, if_pos c1] at hd
    have := congrArg List.length hd
    rw [List.length_drop, List.length_nil] at this
    omega
  · have c2 : s < 256 := by
      rcases Nat.lt_or_ge s 256 with h | h
      · exact h
      · rw [rs_end q hl s h] at c1; omega
    rw [hdb, if_neg c1, dif_neg (by omega)] at hd
    rw [if_neg c1, dif_neg (by omega)]
    obtain ⟨q0', q1, q2⟩ := getD_le_rs q hl hn s c2
    rcases butk_cut hB t (q.getD s 0) (rs q s) _ ht ⟨by omega, by omega, q0', q1⟩ hd with ⟨ht1, hbk⟩ | hbk
    · obtain ⟨_, hd1⟩ := drop_len (show t ≤ bs.length by omega) hd
      rw [bitsN_len] at hd1
      rw [hbk]
      simp only []
      rw [if_neg (by simp)]
      by_cases cv : q.getD s 0 = 0
      · have hA : ¬ (again = true ∧ q.getD s 0 = 0) := fun h => hag h.1 h.2
        rw [if_pos cv] at hd1
        rw [if_neg hA, if_pos cv]
        obtain ⟨z1, z2, z3⟩ := rs_zeros q hl (256 - (s + 1)) (s + 1) (by omega) (by omega)
        rw [if_neg (by omega)]
        rcases takeR_cut hB (254 - (s : Int)) (zr q (s + 1)) (t + widN (rs q s)) _ ht1 hd1 (by omega) (by omega) with ⟨ht2, hr⟩ | ⟨t', hr⟩
        · obtain ⟨_, hd2⟩ := drop_len (show t + widN (rs q s) ≤ bs.length by omega) hd1
          rw [hr]
          simp only []
          rw [if_neg (by simp), Int.toNat_natCast]
          have hih := ih (256 - (s + 1 + zr q (s + 1))) (by omega) (s + 1 + zr q (s + 1)) (by omega) (q0.set s 0) _ true ht2 hd2 (fun _ => z2)
          rw [show rs q (s + 1 + zr q (s + 1)) = rs q s by omega] at hih
          rw [show s + zr q (s + 1) + 1 = s + 1 + zr q (s + 1) by omega]
          exact hih
        · rw [hr]
          simp only []
          rw [if_pos (by decide)]
          exact ⟨_, rfl⟩
      · have hA : ¬ (again = true ∧ q.getD s 0 = 0) := fun h => cv h.2
        rw [if_neg cv] at hd1
        rw [if_neg hA, if_neg cv, ← q2]
        exact ih (256 - (s + 1)) (by omega) (s + 1) (by omega) _ _ false ht1 hd1 (fun h => by cases h)
    · rw [hbk]
      simp only []
      rw [if_pos (by decide)]
      exact ⟨_, rfl⟩
/-! how many bits -/
theorem hdb_cost (q : List Int) (hl : q.length = 256) (hn : ∀ x, x ∈ q → 0 ≤ x) (k : Nat) (hk : k ≤ 12) (hs : q.sum ≤ p2 k) : ∀ (d s : Nat), s + d = 256 → (hdb q s).length ≤ (k + 3) * d := by
  intro d
  induction d using Nat.strongRecOn with
  | _ d ih =>
  intro s h
  rw [hdb]
  split
  · simp
  · rename_i c1
    split
    · simp
    · rename_i c2
      have hsum := rs_le q hn s
      have hp := p2_mono hk
      rw [show p2 12 = 4096 by decide] at hp
      obtain ⟨_, b2, b3, _, b5⟩ := widN_bd (left := rs q s) (by omega) (by omega)
      have hw : widN (rs q s) ≤ k + 1 := by
        rcases Nat.lt_or_ge (k + 1) (widN (rs q s)) with c | c
        · have := p2_mono (show k + 1 ≤ widN (rs q s) - 1 by omega)
          rw [p2_succ] at this
          have := p2_pos k
          omega
        · exact c
      rw [List.length_append, bitsN_len]
      have hz := zr_le q (256 - (s + 1)) (s + 1) (by omega)
      split
      · have i1 := ih (256 - (s + 1 + zr q (s + 1))) (by omega) (s + 1 + zr q (s + 1)) (by omega)
        have := runBits_len (zr q (s + 1))
        rw [List.length_append, this]
        obtain ⟨y, hy⟩ : ∃ y, d = y + (1 + zr q (s + 1)) := ⟨d - (1 + zr q (s + 1)), by omega⟩
        rw [show 256 - (s + 1 + zr q (s + 1)) = y by omega] at i1
        have e : (k + 3) * d = (k + 3) * y + ((k + 3) + (k + 3) * zr q (s + 1)) := by rw [hy, Nat.mul_add, Nat.mul_add, Nat.mul_one]
        rw [e]
        have : zr q (s + 1) * 3 ≤ (k + 3) * zr q (s + 1) := by rw [Nat.mul_comm (k + 3)]; exact Nat.mul_le_mul_left _ (by omega)
        omega
      · have i1 := ih (256 - (s + 1)) (by omega) (s + 1) (by omega)
        obtain ⟨y, hy⟩ : ∃ y, d = y + 1 := ⟨d - 1, by omega⟩
        rw [show 256 - (s + 1) = y by omega] at i1
        rw [hy, Nat.mul_add, Nat.mul_one]
        omega
end Go.Proofs.Ytmmfkmkhflieeaa
namespace Go.Proofs.Ytmmfkmkhflieeaa
open Go.RowKit Go.Proofs.YtmmfkmkhflieeaaW.PrintWords Go.Proofs.YtmmfkmkhflieeaaW.PrintLast Go.Proofs.YtmmfkmkhflieeaaW.PrintMore PPr
attribute [local go_sem] max2_int min2_int max_two min_two max_three min_three max_four min_four
set_option linter.unusedSimpArgs false
set_option linter.unusedVariables false
theorem some_at (l : List Int) (a : Int) (hw : ∀ x ∈ l, (Lit.int .u16 x).wf = true) (h0 : 0 ≤ a) (h1 : a ≤ 255) : ∃ (q : List Int) (k : Nat), SomeQ q k ∧ ∀ (A : Option Addr) (c : Nat) (w : World), Kd.C (Kd.int .u16) w A l.length l → l.length ≤ c →
    Calls Try.prog 24 #[.slice A l.length c, .int .u8 a] w fun e w' => ∃ A1 c1, e = .returned (.tuple #[.slice A1 256 c1, .int .i64 (k : Int)]) ∧ Kd.C (Kd.int .i64) w' A1 256 q ∧ 256 ≤ c1 ∧ Below w.heap.size w w' := by
  obtain ⟨q, k, hq, sq⟩ := someQ_ev l a hw h0 h1
  obtain ⟨k1, hk⟩ := hq.rounds
  refine ⟨q, k, sq, fun A c w hr hc => (puncheonref08_Some.calls k1 A c l a q (k : Int) w hr hc hk).mono ?_⟩
  rintro e w' ⟨v0, rfl, hR, hb⟩
  obtain ⟨A1, c1, rfl⟩ := Kd.R_slice hR
  obtain ⟨_, hle, hC⟩ := Kd.R_reads' hR
  have hl := ((rightB_iff q).1 sq.N.R).1
  rw [hl] at hle hC ⊢
  exact ⟨A1, c1, rfl, hC, hle, hb⟩
theorem nright_at {q : List Int} {r : Nat} (hN : IsN q r) (A : Option Addr) (c : Nat) (w : World) (hq : Kd.C (Kd.int .i64) w A 256 q) (hc : 256 ≤ c) :
    Calls Try.prog 25 #[.slice A 256 c, .int .i64 (r : Int)] w fun e w' => e = .returned (.bool true) ∧ ∃ nd, w' = w.drewN nd := by
  have hl := ((rightB_iff q).1 hN.R).1
  have h := nright_ev q (r : Int) (by omega)
  rw [hN.lg] at h
  simp only [if_true, beq_self_eq_true] at h
  obtain ⟨k, hk⟩ := h.rounds
  rw [← hl] at hq hc ⊢
  exact (norm_Right.calls k A c q (r : Int) true w hq hc hk).mono fun e w' ⟨h1, nd, h2⟩ => ⟨h1, nd, h2⟩
theorem reads_take8 {w : World} {k : IntKind} {A : Option Addr} {n : Nat} {l : List Int} (h : ReadsInt w k A n l) (m : Nat) (hm : m ≤ n) : ReadsInt w k A m (l.take m) := by
  refine ⟨by rw [List.length_take, h.1]; omega, by have := h.2.1; omega, fun hn => ?_⟩
  obtain ⟨ad, e, hc⟩ := h.2.2 (by omega)
  refine ⟨ad, e, fun j hj => ?_⟩
  rw [hc j (by omega)]
  simp [List.getD_eq_getElem?_getD, List.getElem?_take, hj]
theorem slice_pre8 (A : Option Addr) (n c k : Nat) (hk : k ≤ c) (W : World) :
    Sem.run Try.prog (Instr.slice 31 (.slice A n c) none (some (.int .i64 (k : Int))) none) W = .ok (.slice A k c) W := by
  have h2 : (k : Int) ≤ (c : Int) := by omega
  have h3 : 0 ≤ (k : Int) := by omega
  cases A <;> simp [go_sem, Instr.slice, h2, h3, hk]
theorem own_nil1 {w : World} {base n m c : Nat} {e : TypeId} {s : Nat} {A : Option Addr} {xs : List Value} (h : w.ownsRow base e s (.slice A n c) m xs) : A = none → c = 0 := by
  intro hA
  rcases h.2 with ⟨e, _⟩ | ⟨b, cap, cur, e, _⟩
  · injection e
  · rw [hA] at e; cases e
section
variable {w0 W : World} {os : List Ob}
theorem hBytesC_w {g : Nat} {bs : List Bool} (H : Hold w0 W (wrO g bs :: os)) (hm : bs.length ≤ 1000000000000) :
    Calls Try.prog 14 #[.pointer (some ⟨g, 0, none⟩)] W fun e w' => ∃ A c, e = .returned (.slice A (bytesOf' bs).length c) ∧ (bytesOf' bs).length ≤ c ∧ ReadsInt w' .u8 A (bytesOf' bs).length (bytesOf' bs) ∧ (A = none → c = 0) ∧ Hold w0 w' (wrO g bs :: os) := by
  obtain ⟨F, h⟩ := H.head
  refine (wbytes_any g bs W F h hm).mono ?_
  rintro e w' ⟨v, rfl, ho, hb⟩
  obtain ⟨A, c, rfl, hle, hr⟩ := own_reads' ho
  exact ⟨A, c, rfl, hle, hr, own_nil1 ho, H.below hb⟩
end
set_option maxRecDepth 20000 in
set_option maxHeartbeats 4000000 in
theorem hdcost_walk (a : Option Addr) (len cap : Nat) (zs : List Int) (r : Int) (at_ : Int) (w : World) (h : IsRow .u16 w a len cap zs) (y : len * 2 ≤ 140737488351232) (h1 : (Lit.int .u8 r).wf = true) (h2 : (Lit.int .u16 at_).wf = true) :
    Calls Try.prog 5 #[.slice a len cap, .int .u8 r, .int .u16 at_] w fun e w' => e = .returned (.bool true) ∧ Below w.heap.size w w' := by
  obtain ⟨l, rfl, hr, hle, hwf⟩ := h.reads (by omega)
  have h1 := bounds_u8 h1
  have h2 := bounds_u16 h2
  have R0 := Lib.hid (show Kd.C (Kd.int .u16) w a l.length l from Kd.C_of_reads (readsInt_of.1 hr))
  have HB := Lib.hid (Below.refl w.heap.size w)
  obtain ⟨q, k, hS, hsome⟩ := some_at l r hwf h1.1 h1.2
  have HS := Lib.hid hsome
  clear h hr hwf y hsome h1
  by_cases hs : l.length ≤ 80
  · have hN := hS.N
    have k0 := hS.k0
    have k1 := hS.k1
    obtain ⟨hl, hnn, _⟩ := (rightB_iff q).1 hN.R
    have hsm : q.sum = p2 k := by rw [hN.sm]; unfold p2; simp
    have hp := p2_mono (show k ≤ 12 by omega)
    rw [show p2 12 = 4096 by decide] at hp
    have hp0 := p2_pos k
    have hcost := hdb_cost q hl hnn k (by omega) (by omega) 256 0 rfl
    have hrs : rs q 0 = p2 k := by unfold rs; rw [List.drop_zero]; exact hsm
    have hpos : 0 < (hdb q 0).length := by
      obtain ⟨_, b2, _⟩ := widN_bd (show 1 ≤ rs q 0 by omega) (by omega)
      rw [hdb, if_neg (by omega), dif_neg (by omega), List.length_append, bitsN_len]
      omega
    have HCU := Lib.hid (fun (l : List Int) (hB : Cut l (hdb q 0)) => hdk_cut hB q hl hnn (by omega) 256 0 rfl (List.replicate 256 0) 0 false (Nat.zero_le _) (by rw [List.drop_zero]) (fun h => by cases h))
    have HPU := Lib.hid (fun (w W : World) g os A c hc h HQ => hPut_256 (w0 := w) (W := W) (g := g) (bs := []) (os := os) h (by simp) (A := A) (c := c) hN hc HQ)
    have HCO := Lib.hid (fun (w W : World) os A c hc h HQ => hCost_256 (w0 := w) (W := W) (os := os) h (A := A) (c := c) hN hc HQ)
    rw [hrs] at HCU
    simp only [List.nil_append] at HPU
    have hcut := cut_take (hdb q 0)
    have hBL := bytesOf'_len (hdb q 0)
    have BO := Lib.hid (bytesOf'_ok (hdb q 0))
    clear hS hN hl hnn hsm hrs
    generalize hdb q 0 = bs at *
    obtain ⟨B, hB⟩ : ∃ B, bytesOf' bs = B := ⟨_, rfl⟩
    have HWB := Lib.hid (fun w W g os (h : Hold w W (wrO g bs :: os)) => hBytesC_w h (by omega))
    rw [hB] at hBL BO hcut HWB
    clear hB
    have hbn : B.length ≤ 1000000 := by omega
    have hb0 : 0 < B.length := by omega
    have hb1 : (0 : Int) < (B.length : Int) := by omega
    obtain ⟨M, hM⟩ : ∃ M : Nat, at_ % (B.length : Int) = (M : Int) := ⟨(at_ % (B.length : Int)).toNat, by have := Int.emod_nonneg at_ (show (B.length : Int) ≠ 0 by omega); omega⟩
    have hML : M < B.length := by have := Int.emod_lt_of_pos at_ hb1; omega
    have f1 : at_.tmod (B.length : Int) = (M : Int) := by rw [Int.tmod_eq_emod_of_nonneg h2.1]; exact hM
    have f2 : IntKind.i64.wrap at_ = at_ := IntWalk.i64_in _ (by omega)
    have f3 : IntKind.i64.wrap (M : Int) = (M : Int) := IntWalk.i64_in _ (by omega)
    have f4 : ((B.length : Int) == 0) = false := by rw [beq_eq_false_iff_ne]; omega
    have f5 : ¬ (B.length : Int) = 0 := by omega
    have htl : (B.take M).length = M := by rw [List.length_take]; omega
    have hC := hcut M hML
    obtain ⟨t', hR⟩ := HCU.out _ hC
    have HTL := Lib.hid htl
    have BO2 := Lib.hid (show ∀ x, x ∈ B.take M → 0 ≤ x ∧ x ≤ 255 from fun x hx => BO.out x (List.mem_of_mem_take hx))
    have HTK := Lib.hid (fun w W g os h => htake_err (w0 := w) (W := W) (os := os) g (B.take M) 0 k h (Nat.zero_le _) (by rw [htl]; omega) BO2.out (by omega) (by omega) (by decide) hR)
    have HSP := Lib.hid (fun A n c (hk : B.length ≤ c) W => slice_pre8 A n c M (by omega) W)
    have g1 : IntKind.i64.wrap ((k : Int) + 3) = (k : Int) + 3 := IntWalk.i64_in _ (by omega)
    have g2 : IntKind.i64.wrap (256 * ((k : Int) + 3)) = 256 * ((k : Int) + 3) := IntWalk.i64_in _ (by omega)
    have g3 : (bs.length : Int) ≤ 256 * ((k : Int) + 3) := by omega
    clear HCU hcut hC hR hM htl hcost hBL
    go_enter Try.func5, Try.ntmps5
    go_wp2_with (first
      | (go_at_call 8; (with_reducible refine (awake15 _).mono ?_); rintro e w1 ⟨rfl, hb⟩; replace R0 := Lib.hid (Kd.C_below R0.out hb); replace HB := Lib.hid (below_then' HB.out hb); clear hb)
      | (go_at_call 24; (with_reducible refine (HS.out _ _ _ R0.out hle).mono ?_); rintro e w2 ⟨A1, c1, rfl, hr, hc1, hb⟩; have RQ := Lib.hid (fun W (h : Below w2.heap.size w2 W) => Kd.C_below hr h); replace HB := Lib.hid (below_then' HB.out hb); have H := Lib.hid (Hold.start w2); clear hb hr)
      | (go_at_call 9; (with_reducible refine (hNew_w H.out).mono ?_); rintro e w3 ⟨g, rfl, h⟩; replace H := Lib.hid h; clear h)
      | (go_at_call 10; (with_reducible refine (HPU.out _ _ _ _ _ _ hc1 H.out (fun W bs h => RQ.out W h.B)).mono ?_); rintro e w4 ⟨rfl, h⟩; replace H := Lib.hid h; clear h)
      | (go_at_call 14; (with_reducible refine (HWB.out _ _ _ _ H.out).mono ?_); rintro e w5 ⟨A2, c2, rfl, hc2, hr, hnil, h⟩; replace H := Lib.hid h; have P1 := Lib.hid hr; have NL := Lib.hid hnil; have SP := HSP.out A2 B.length c2 hc2; clear h hr hnil)
      | (go_at_call 17; (with_reducible refine (hNew_r H.out HTL.out (reads_take8 P1.out M (by omega)) (by omega) NL.out).mono ?_); rintro e w6 ⟨g2, rfl, h, _⟩; replace H := Lib.hid h; clear h)
      | (go_at_call 19; (with_reducible refine (HTK.out _ _ _ _ H.out).mono ?_); rintro e w7 ⟨rfl, h⟩; replace H := Lib.hid h.swap; clear h)
      | (go_at_call 12; (with_reducible refine (hBits_w H.out).mono ?_); rintro e w8 ⟨rfl, rfl⟩)
      | (go_at_call 16; (with_reducible refine (HCO.out _ _ _ _ _ hc1 H.out (fun W o h => RQ.out W h.B)).mono ?_); rintro e w9 ⟨rfl, h⟩; replace H := Lib.hid h; clear h))
    go_ret
    exact ⟨rfl, below_then' HB.out H.out.B⟩
  · go_enter Try.func5, Try.ntmps5
    go_wp2_with (go_at_call 8; (with_reducible refine (awake15 _).mono ?_); rintro e w1 ⟨rfl, hb⟩; replace HB := Lib.hid (below_then' HB.out hb); clear hb)
    go_ret
    exact ⟨rfl, HB.out⟩
end Go.Proofs.Ytmmfkmkhflieeaa
