/- A header in plain: the bits of normalized counts. The layer header: Put and Cost. What is put as a header is taken. -/
import Derived.Test.YtmmfkmkhflieeaaNq
import Derived.Test.YtmmfkmkhflieeaaRu
import Derived.Test.YtmmfkmkhflieeaaPPrx1
import Derived.Test.YtmmfkmkhflieeaaPPrx3
import Derived.Deep.RegionHeld3
import Derived.Test.YtmmfkmkhflieeaaHa
namespace Go.Proofs.Ytmmfkmkhflieeaa
open Go.RowKit Go.Proofs.YtmmfkmkhflieeaaW.PrintWords Go.Proofs.YtmmfkmkhflieeaaW.PrintLast Go.Proofs.YtmmfkmkhflieeaaW.PrintMore
set_option linter.unusedSimpArgs false
set_option linter.unusedVariables false
/-- how many are 0, from s on, of 256 -/
def zr (q : List Int) (s : Nat) : Nat := if s < 256 then if q.getD s 0 = 0 then zr q (s + 1) + 1 else 0 else 0
termination_by 256 - s
theorem zr_le (q : List Int) : ∀ (d s : Nat), s + d = 256 → zr q s ≤ d
  | 0, s, h => by rw [zr, if_neg (by omega)]; omega
  | d + 1, s, h => by
    have ih := zr_le q d (s + 1) (by omega)
    rw [zr, if_pos (by omega)]
    split <;> omega
/-- what is left from s on -/
def rs (q : List Int) (s : Nat) : Int := (q.drop s).sum
theorem rs_succ (q : List Int) (s : Nat) (h : s < q.length) : rs q s = q.getD s 0 + rs q (s + 1) := by
  unfold rs
  rw [List.drop_eq_getElem_cons h, List.sum_cons, List.getD_eq_getElem?_getD, List.getElem?_eq_getElem h]
  rfl
theorem rs_nn (q : List Int) (hq : ∀ x, x ∈ q → 0 ≤ x) (s : Nat) : 0 ≤ rs q s := sum_nonneg (fun x hx => hq x (List.mem_of_mem_drop hx))
theorem rs_end (q : List Int) (hl : q.length = 256) (s : Nat) (h : 256 ≤ s) : rs q s = 0 := by
  unfold rs; rw [List.drop_eq_nil_of_le (by omega)]; rfl
theorem rs_zeros (q : List Int) (hl : q.length = 256) : ∀ (d s : Nat), s + d = 256 → 0 < rs q s → s + zr q s < 256 ∧ q.getD (s + zr q s) 0 ≠ 0 ∧ rs q (s + zr q s) = rs q s
  | 0, s, h, h0 => by rw [rs_end q hl s (by omega)] at h0; omega
  | d + 1, s, h, h0 => by
    rw [zr, if_pos (by omega)]
    have hs := rs_succ q s (by omega)
    by_cases c : q.getD s 0 = 0
    · rw [if_pos c]
      rw [c] at hs
      obtain ⟨i1, i2, i3⟩ := rs_zeros q hl d (s + 1) (by omega) (by omega)
      rw [show s + (zr q (s + 1) + 1) = s + 1 + zr q (s + 1) by omega]
      exact ⟨i1, i2, by omega⟩
    · rw [if_neg c, Nat.add_zero]
      exact ⟨by omega, c, rfl⟩
/-- the bits of counts, from s on -/
def hdb (q : List Int) (s : Nat) : List Bool :=
  if rs q s ≤ 0 then []
  else if h : 256 ≤ s then []
  else bitsN (q.getD s 0) (widN (rs q s)) ++ (if q.getD s 0 = 0 then runBits (zr q (s + 1)) ++ hdb q (s + 1 + zr q (s + 1)) else hdb q (s + 1))
termination_by 256 - s
theorem hdb_len (q : List Int) (hl : q.length = 256) (hn : ∀ x, x ∈ q → 0 ≤ x) (hs : q.sum ≤ 4096) : ∀ (d s : Nat), s + d = 256 → (hdb q s).length ≤ 200 * d := by
  intro d
  induction d using Nat.strongRecOn with
  | _ d ih =>
  intro s h
  rw [hdb]
  split
  · simp
  · rename_i c1
    split
    · simp
    · rename_i c2
      have hsum : rs q s ≤ q.sum := by
        have := List.take_append_drop s q
        have e : q.sum = (q.take s).sum + rs q s := by unfold rs; rw [← List.sum_append, this]
        have := sum_nonneg (l := q.take s) (fun x hx => hn x (List.mem_of_mem_take hx))
        omega
      obtain ⟨_, _, b3, _, _⟩ := widN_bd (left := rs q s) (by omega) (by omega)
      rw [List.length_append, bitsN_len]
      have hz := zr_le q (256 - (s + 1)) (s + 1) (by omega)
      split
      · have i1 := ih (256 - (s + 1 + zr q (s + 1))) (by omega) (s + 1 + zr q (s + 1)) (by omega)
        have := runBits_len (zr q (s + 1))
        rw [List.length_append, this]
        omega
      · have i1 := ih (256 - (s + 1)) (by omega) (s + 1) (by omega)
        omega
end Go.Proofs.Ytmmfkmkhflieeaa
namespace Go.Proofs.Ytmmfkmkhflieeaa
open Go.RowKit Go.Proofs.YtmmfkmkhflieeaaW.PrintWords Go.Proofs.YtmmfkmkhflieeaaW.PrintLast Go.Proofs.YtmmfkmkhflieeaaW.PrintMore PPr
attribute [local go_sem] max2_int min2_int max_two min_two max_three min_three max_four min_four
set_option linter.unusedSimpArgs false
set_option linter.unusedVariables false
theorem zeros_from (q : List Int) (hl : q.length = 256) (s : Nat) : ∀ (d n : Nat), s + n + d = 256 → Ev (fun k => header_zeros.l0 k q (s : Int) (n : Int)) ((n + zr q (s + n) : Nat) : Int)
  | 0, n, h => by
    refine Ev.step (fun _ => by rw [header_zeros.l0]) ?_
    rw [show wrap64 ((s : Int) + (n : Int)) = (s : Int) + n from w64' rfl (by omega) (by omega), zr, if_neg (by omega)]
    exact ev_neg (by omega) (Ev.now _)
  | d + 1, n, h => by
    have ih := zeros_from q hl s d (n + 1) (by omega)
    refine Ev.step (fun _ => by rw [header_zeros.l0]) ?_
    rw [show wrap64 ((s : Int) + (n : Int)) = ((s + n : Nat) : Int) from w64' (by omega) (by omega) (by omega), rd_nat q (s + n), zr, if_pos (by omega)]
    refine ev_pos (by omega) (ev_pos (by omega) (ev_pos (by omega) ?_))
    by_cases c : q.getD (s + n) 0 = 0
    · rw [if_pos c, wnext n (by omega)]
      rw [show s + (n + 1) = s + n + 1 by omega] at ih
      refine ev_pos c (ev_eq ih ?_)
      omega
    · rw [if_neg c]
      exact ev_neg c (ev_eq (Ev.now _) (by omega))
theorem zeros_any (q : List Int) (hl : q.length = 256) (s : Nat) (hs : s ≤ 256) (A : Option Addr) (c : Nat) (w : World) (hr : Kd.C (Kd.int .i64) w A q.length q) (hc : q.length ≤ c) :
    Calls Try.prog 31 #[.slice A q.length c, .int .i64 (s : Int)] w fun e w' => e = .returned (.int .i64 (zr q s : Int)) ∧ Drawn0 w w' := by
  have h := zeros_from q hl s (256 - s) 0 (by omega)
  rw [Nat.zero_add, Nat.add_zero] at h
  obtain ⟨k, hk⟩ := h.rounds
  exact header_zeros.calls k A c q (s : Int) _ w hr hc hk
theorem cell_any {w : World} {A : Option Addr} {q : List Int} (h : Kd.C (Kd.int .i64) w A q.length q) (s : Nat) (hs : s < q.length) : ∃ ad, A = some ad ∧ w.cell? (ad.add s) = some (.int .i64 (q.getD s 0)) := by
  obtain ⟨ad, e, hc⟩ := Kd.at_int h (s : Int) (by omega) (by omega)
  rw [Int.toNat_natCast] at hc
  exact ⟨ad, e, hc⟩
theorem cell_same {w : World} {ad : Addr} {q : List Int} (h : Kd.C (Kd.int .i64) w (some ad) q.length q) (s : Nat) (hs : s < q.length) : w.cell? (ad.add s) = some (.int .i64 (q.getD s 0)) := by
  obtain ⟨ad', e, hc⟩ := cell_any h s hs
  cases e
  exact hc
theorem getD_le_rs (q : List Int) (hl : q.length = 256) (hn : ∀ x, x ∈ q → 0 ≤ x) (s : Nat) (h : s < 256) : 0 ≤ q.getD s 0 ∧ q.getD s 0 ≤ rs q s ∧ rs q (s + 1) = rs q s - q.getD s 0 := by
  have h1 := rs_succ q s (by omega)
  have h2 := rs_nn q hn (s + 1)
  have h3 := hn _ (getD_memE (show s < q.length by omega))
  omega
theorem rs_le (q : List Int) (hn : ∀ x, x ∈ q → 0 ≤ x) (s : Nat) : rs q s ≤ q.sum := by
  have := List.take_append_drop s q
  have e : q.sum = (q.take s).sum + rs q s := by unfold rs; rw [← List.sum_append, this]
  have := sum_nonneg (l := q.take s) (fun x hx => hn x (List.mem_of_mem_take hx))
  omega
section
variable {w0 W : World} {os : List Ob}
set_option maxRecDepth 20000 in
set_option maxHeartbeats 4000000 in
theorem hPut_hd {g : Nat} {bs : List Bool} (H : Hold w0 W (wrO g bs :: os)) (hb : bs.length ≤ 1000000) {A : Option Addr} {c : Nat} {q : List Int} {r : Nat} (hN : IsN q r) (hc : q.length ≤ c) (HQ : ∀ W bs, Hold w0 W (wrO g bs :: os) → Kd.C (Kd.int .i64) W A q.length q) :
    Calls Try.prog 10 #[.pointer (some ⟨g, 0, none⟩), .slice A q.length c] W fun e w' => e = .returned (.bool true) ∧ Hold w0 w' (wrO g (bs ++ hdb q 0) :: os) := by
  have H := Lib.hid H
  obtain ⟨hl, hnn, _⟩ := (rightB_iff q).1 hN.R
  have hsm : q.sum = p2 r := by rw [hN.sm]; unfold p2; simp
  have hp := p2_mono hN.r1
  rw [show p2 12 = 4096 by decide] at hp
  have hp0 := p2_pos r
  have hlg := log_ev q (by omega)
  rw [hN.lg] at hlg
  obtain ⟨kl, hkl⟩ := hlg.rounds
  have HLG := Lib.hid (fun W hr => norm_Log.calls kl A c q (r : Int) true W hr hc hkl)
  have HQ := Lib.hid HQ
  have HL := Lib.hid hl
  have HNN := Lib.hid hnn
  have HZ := Lib.hid (fun s hs W hr => zeros_any q hl s hs A c W hr hc)
  obtain ⟨ad, hA, _⟩ := cell_any (HQ.out _ _ H.out) 0 (by omega)
  subst hA
  have e1 : (2 : Int) ^ r = q.sum := by rw [hsm]; unfold p2; simp
  have hr0 : rs q 0 = q.sum := by unfold rs; rw [List.drop_zero]
  have hs4 : q.sum ≤ 4096 := by omega
  have HS4 := Lib.hid hs4
  have HPL := Lib.hid (fun s (hs : s ≤ 256) => hdb_len q hl hnn hs4 (256 - s) s (by omega))
  have hr1 := hN.r1
  have HEW := Lib.hid (show wrap64 (rs q 0) = rs q 0 from w64' rfl (by omega) (by omega))
  clear hkl hlg hsm hnn hN hl
  rw [← hr0] at e1
  clear hr0
  go_enter Try.func10, Try.ntmps10
  generalize hP : rs q 0 = P at *
  go_wp2_with (go_at_call 29; (with_reducible refine (HLG.out _ (HQ.out _ _ H.out)).mono ?_); rintro e w1 ⟨rfl, nd, rfl⟩; replace H := Lib.hid (Hold.drewN H.out nd))
  subst hP
  clear e1
  go_loopg [7, 8] 256 (fun k lf sl wr => ∃ (s : Nat) (pre : List Bool), lf = .int .i64 (rs q s) ∧ sl = .int .i64 s ∧ k = 256 - s ∧ s ≤ 256 ∧ Hid (pre ++ hdb q s = bs ++ hdb q 0) ∧ Hid (pre.length ≤ 1000000 + 200 * s) ∧ Hid (Hold w0 wr (wrO g pre :: os)))
  case atStart => exact ⟨0, bs, by rw [HEW.out], rfl, rfl, by omega, Lib.hid rfl, Lib.hid (by omega), H⟩
  case round =>
    obtain ⟨s, pre, rfl, rfl, hk, hs, HPRE, HPN, hH⟩ := hrel
    have HK := Lib.hid hk
    clear H hk
    have H := hH
    clear hH
    have hle := rs_le q HNN.out s
    have hnn0 := rs_nn q HNN.out s
    by_cases c1 : rs q s ≤ 0
    · have z1 : decide (0 < rs q s) = false := decide_eq_false (by omega)
      have hpre := HPRE.out
      rw [hdb, if_pos c1, List.append_nil] at hpre
      subst hpre
      go_wp2
      go_ret
      exact ⟨rfl, H.out⟩
    · have z1 : decide (0 < rs q s) = true := decide_eq_true (by omega)
      have c2 : s < 256 := by
        rcases Nat.lt_or_ge s 256 with h | h
        · exact h
        · rw [rs_end q HL.out s h] at c1; omega
      obtain ⟨q0, q1, q2⟩ := getD_le_rs q HL.out HNN.out s c2
      have hs4 := HS4.out
      have i0 : (0 : Int) ≤ (s : Int) := by omega
      have i1 : (s : Int) < (q.length : Int) := by have := HL.out; omega
      have HCL := Lib.hid (fun W bs (h : Hold w0 W (wrO g bs :: os)) => cell_same (HQ.out W bs h) s (by have := HL.out; omega))
      have hpre := HPRE.out
      rw [hdb, if_neg c1, dif_neg (by omega), ← List.append_assoc] at hpre
      have HBU := Lib.hid (fun W (h : Hold w0 W (wrO g pre :: os)) => hPut_bu h (by have := HPN.out; omega) (show canB (q.getD s 0) (rs q s) from ⟨by omega, by omega, q0, q1⟩))
      obtain ⟨_, _, b3, _, _⟩ := widN_bd (left := rs q s) (by omega) (by omega)
      have hpl : (pre ++ bitsN (q.getD s 0) (widN (rs q s))).length ≤ 1000000 + 200 * s + 13 := by rw [List.length_append, bitsN_len]; have := HPN.out; omega
      have hcell := HCL.out _ _ H.out
      have z5 : IntKind.i64.wrap (rs q s - q.getD s 0) = rs q (s + 1) := by rw [IntWalk.i64_in _ (by omega)]; omega
      by_cases cv : q.getD s 0 = 0
      · rw [if_pos cv] at hpre
        have hz := rs_zeros q HL.out (256 - (s + 1)) (s + 1) (by omega) (by omega)
        have hzl := zr_le q (256 - (s + 1)) (s + 1) (by omega)
        have HZ2 := Lib.hid (fun W (hr : Kd.C (Kd.int .i64) W (some ad) q.length q) => HZ.out (s + 1) (by omega) W hr)
        rw [← List.append_assoc] at hpre
        have hrl := runBits_len (zr q (s + 1))
        have hp2 : (pre ++ bitsN (q.getD s 0) (widN (rs q s)) ++ runBits (zr q (s + 1))).length ≤ 1000000 + 200 * (s + 1 + zr q (s + 1)) := by rw [List.length_append, hrl]; omega
        have HRU := Lib.hid (fun W (h : Hold w0 W (wrO g (pre ++ bitsN (q.getD s 0) (widN (rs q s))) :: os)) => hPut_ru h (by omega) (zr q (s + 1)) (by omega))
        have HPRE2 := Lib.hid hpre
        have HPN2 := Lib.hid hp2
        have e3 : rs q (s + 1) = rs q (s + 1 + zr q (s + 1)) := by rw [hz.2.2]
        have HE := Lib.hid e3
        have hzb : s + 1 + zr q (s + 1) < 256 := hz.1
        clear hpre hp2 hrl hz e3 hpl q2
        rw [cv] at HBU HCL HRU HPRE2 HPN2 hcell z5
        generalize pre ++ bitsN 0 (widN (rs q s)) = pre2 at *
        generalize pre2 ++ runBits (zr q (s + 1)) = pre3 at *
        generalize rs q (s + 1) = Ls at *
        generalize zr q (s + 1) = Z at *
        have z5' : IntKind.i64.wrap (rs q s) = Ls := by rw [← z5]; simp
        go_wp2_with (first
          | (go_at_call 30; (with_reducible refine (HBU.out _ H.out).mono ?_); rintro e w1 ⟨rfl, h⟩; replace H := Lib.hid h; clear h hcell; have hcell := HCL.out _ _ H.out)
          | (go_at_call 31; (refine (HZ2.out _ (HQ.out _ _ H.out)).mono ?_); rintro e w1 ⟨rfl, nd, rfl⟩; replace H := Lib.hid (Hold.drewN H.out nd))
          | (go_at_call 32; (with_reducible refine (HRU.out _ H.out).mono ?_); rintro e w1 ⟨rfl, h⟩; replace H := Lib.hid h; clear h))
        rw [HE.out]
        go_roundg (256 - (s + 1 + Z))
        case measure => have := HK.out; omega
        case rel => exact ⟨s + 1 + Z, pre3, rfl, by first | go_num | (congr 1; omega), rfl, by omega, HPRE2, HPN2, H⟩
      · rw [if_neg cv] at hpre
        have zv : (q.getD s 0 == 0) = false := by rw [beq_eq_false_iff_ne]; exact cv
        have HPRE2 := Lib.hid hpre
        have HPN2 := Lib.hid (show (pre ++ bitsN (q.getD s 0) (widN (rs q s))).length ≤ 1000000 + 200 * (s + 1) by omega)
        clear hpre hpl q2 cv
        generalize pre ++ bitsN (q.getD s 0) (widN (rs q s)) = pre2 at *
        generalize hLs : rs q (s + 1) = Ls at *
        generalize q.getD s 0 = X at *
        go_wp2_with (go_at_call 30; (with_reducible refine (HBU.out _ H.out).mono ?_); rintro e w1 ⟨rfl, h⟩; replace H := Lib.hid h; clear h hcell; have hcell := HCL.out _ _ H.out)
        subst hLs
        go_roundg (256 - (s + 1))
        case measure => have := HK.out; omega
        case rel => exact ⟨s + 1, pre2, rfl, by go_num, rfl, by omega, HPRE2, HPN2, H⟩
theorem hPutN_hd {g : Nat} (H : Hold w0 W os) {A : Option Addr} {c : Nat} {q : List Int} (hl : q.length ≤ 4611686018427387000) (hN : lg (totZ q) 12 1 = (0, false)) (hc : q.length ≤ c) (HQ : Kd.C (Kd.int .i64) W A q.length q) :
    Calls Try.prog 10 #[.pointer (some ⟨g, 0, none⟩), .slice A q.length c] W fun e w' => e = .returned (.bool false) ∧ Hold w0 w' os := by
  have H := Lib.hid H
  have hlg := log_ev q hl
  rw [hN] at hlg
  obtain ⟨kl, hkl⟩ := hlg.rounds
  have HLG := Lib.hid (fun W hr => norm_Log.calls kl A c q 0 false W hr hc hkl)
  have HQ := Lib.hid HQ
  clear hkl hlg hN
  go_enter Try.func10, Try.ntmps10
  go_wp2_with (go_at_call 29; (with_reducible refine (HLG.out _ HQ.out).mono ?_); rintro e w1 ⟨rfl, nd, rfl⟩; replace H := Lib.hid (Hold.drewN H.out nd))
  go_ret
  exact ⟨rfl, H.out⟩
set_option maxHeartbeats 1000000 in
theorem hCost_hd (H : Hold w0 W os) {A : Option Addr} {c : Nat} {q : List Int} {r : Nat} (hN : IsN q r) (hc : q.length ≤ c) (HQ : ∀ W o, Hold w0 W (o :: os) → Kd.C (Kd.int .i64) W A q.length q) :
    Calls Try.prog 16 #[.slice A q.length c] W fun e w' => e = .returned (.int .i64 ((hdb q 0).length : Int)) ∧ Hold w0 w' os := by
  have H := Lib.hid H
  have HP := Lib.hid (fun W g (h : Hold w0 W (wrO g [] :: os)) => hPut_hd h (by simp) hN hc (fun W bs h => HQ W _ h))
  clear hN HQ
  go_enter Try.func16, Try.ntmps16
  go_wp2_with (first
    | (go_at_call 9; (with_reducible refine (hNew_w H.out).mono ?_); rintro e w1 ⟨g, rfl, h⟩; replace H := Lib.hid h; clear h)
    | (go_at_call 10; (with_reducible refine (HP.out _ _ H.out).mono ?_); rintro e w1 ⟨rfl, h⟩; rw [List.nil_append] at h; replace H := Lib.hid h; clear h)
    | (go_at_call 12; (with_reducible refine (hBits_w H.out).mono ?_); rintro e w1 ⟨rfl, rfl⟩))
  go_ret
  exact ⟨rfl, H.out.drop⟩
set_option maxHeartbeats 1000000 in
theorem hCostN_hd (H : Hold w0 W os) {A : Option Addr} {c : Nat} {q : List Int} (hl : q.length ≤ 4611686018427387000) (hN : lg (totZ q) 12 1 = (0, false)) (hc : q.length ≤ c) (HQ : ∀ W o, Hold w0 W (o :: os) → Kd.C (Kd.int .i64) W A q.length q) :
    Calls Try.prog 16 #[.slice A q.length c] W fun e w' => e = .returned (.int .i64 0) ∧ Hold w0 w' os := by
  have H := Lib.hid H
  have HP := Lib.hid (fun W g (h : Hold w0 W (wrO g [] :: os)) => hPutN_hd (g := g) h hl hN hc (HQ W _ h))
  clear hN HQ
  go_enter Try.func16, Try.ntmps16
  go_wp2_with (first
    | (go_at_call 9; (with_reducible refine (hNew_w H.out).mono ?_); rintro e w1 ⟨g, rfl, h⟩; replace H := Lib.hid h; clear h)
    | (go_at_call 10; (with_reducible refine (HP.out _ _ H.out).mono ?_); rintro e w1 ⟨rfl, h⟩; replace H := Lib.hid h; clear h)
    | (go_at_call 12; (with_reducible refine (hBits_w H.out).mono ?_); rintro e w1 ⟨rfl, rfl⟩))
  go_ret
  exact ⟨rfl, H.out.drop⟩
end
end Go.Proofs.Ytmmfkmkhflieeaa
namespace Go.Proofs.Ytmmfkmkhflieeaa
open Go.RowKit Go.Proofs.YtmmfkmkhflieeaaW.PrintWords Go.Proofs.YtmmfkmkhflieeaaW.PrintLast Go.Proofs.YtmmfkmkhflieeaaW.PrintMore
set_option linter.unusedSimpArgs false
set_option linter.unusedVariables false
/-- bytes that begin with these bits -/
structure Beg (l : List Int) (bs : List Bool) : Prop where
  len : bs.length ≤ 8 * l.length
  num : ∀ (t n : Nat) (v : Int) (r : List Bool), t ≤ bs.length → 0 ≤ v → v < pw n → bs.drop t = bitsN v n ++ r → numAt l t n = v
theorem beg_more (bs : List Bool) (C : List Int) : Beg (bytesOf' bs ++ C) bs := by
  refine ⟨by rw [List.length_append, bytesOf'_len]; omega, fun t n v r ht h0 h1 hd => ?_⟩
  rw [(numAt_more bs C t v n r ht h0 hd).1, Int.emod_eq_of_lt h0 h1]
theorem beg_self (bs : List Bool) : Beg (bytesOf' bs) bs := by
  have := beg_more bs []
  rwa [List.append_nil] at this
theorem drop_len {bs c r : List Bool} {t : Nat} (ht : t ≤ bs.length) (hd : bs.drop t = c ++ r) : t + c.length ≤ bs.length ∧ bs.drop (t + c.length) = r := by
  have h1 := congrArg List.length hd
  rw [List.length_drop, List.length_append] at h1
  refine ⟨by omega, ?_⟩
  rw [← List.drop_drop, hd, List.drop_left]
theorem butk_beg {l : List Int} {bs : List Bool} (hB : Beg l bs) (t : Nat) (v left : Int) (r : List Bool) (ht : t ≤ bs.length) (hc : canB v left) (hd : bs.drop t = bitsN v (widN left) ++ r) : butk (8 * l.length) t (numAt l t (widN left)) left = (v, 0, t + widN left) := by
  obtain ⟨h1, h2, h3, h4⟩ := hc
  obtain ⟨_, _, b3, b4, _⟩ := widN_bd h1 h2
  have e := hB.num t (widN left) v r ht h3 (by have : p2 (widN left) = pw (widN left) := rfl; omega) hd
  have hl := (drop_len ht hd).1
  rw [bitsN_len] at hl
  have := hB.len
  unfold butk
  rw [if_pos ⟨h1, h2⟩, if_pos (by omega), e, if_pos h4]
theorem tkR_beg {l : List Int} {bs : List Bool} (hB : Beg l bs) (most : Int) : ∀ (m : Nat) (n : Int) (t : Nat) (r : List Bool), t ≤ bs.length → bs.drop t = runBits m ++ r → n + m ≤ most → tkR l most n t = (n + m, 0, t + (runBits m).length) := by
  intro m
  induction m using Nat.strongRecOn with
  | _ m ih =>
  intro n t r ht hd hm
  have hl := (drop_len ht hd).1
  have hL := runBits_len m
  have hb := hB.len
  rw [tkR, dif_pos (by omega)]
  rcases Nat.lt_or_ge m 3 with h3 | h3
  · have e2 : (runBits m).length = 2 := by omega
    have hN := hB.num t 2 (m : Int) r ht (by omega) (by rw [show pw 2 = 4 by decide]; omega) (by rw [bitsN_small m h3]; exact hd)
    rw [hN, if_neg (by omega), if_pos (by omega), e2]
  · obtain ⟨k, rfl⟩ : ∃ k, m = k + 3 := ⟨m - 3, by omega⟩
    have hd2 : bs.drop t = [true, true] ++ (runBits k ++ r) := by rw [hd]; simp [runBits]
    have hN := hB.num t 2 3 (runBits k ++ r) ht (by omega) (by rw [show pw 2 = 4 by decide]; omega) (by rw [bitsN_three]; exact hd2)
    obtain ⟨h4, hd3⟩ := drop_len ht hd2
    have hLk := runBits_len k
    rw [hN, if_neg (by omega), if_neg (by decide), ih k (by omega) (n + 3) (t + 2) r (by simpa using h4) (by simpa using hd3) (by omega)]
    simp only [Prod.mk.injEq]
    refine ⟨by omega, trivial, by omega⟩
theorem takeR_beg {l : List Int} {bs : List Bool} (hB : Beg l bs) (most : Int) (m t : Nat) (r : List Bool) (ht : t ≤ bs.length) (hd : bs.drop t = runBits m ++ r) (hm : (m : Int) ≤ most) (h255 : most ≤ 255) : takeR l most t = ((m : Int), 0, t + (runBits m).length) := by
  unfold takeR
  rw [if_pos ⟨by omega, h255⟩, tkR_beg hB most m 0 t r ht hd (by omega)]
  simp
/-- the counts that are known ahead of s -/
def qT (q : List Int) (s : Nat) : List Int := q.take s ++ List.replicate (256 - s) 0
theorem qT_len (q : List Int) (hl : q.length = 256) (s : Nat) (hs : s ≤ 256) : (qT q s).length = 256 := by
  unfold qT; rw [List.length_append, List.length_take, List.length_replicate]; omega
theorem qT_get (q : List Int) (hl : q.length = 256) (s i : Nat) (hs : s ≤ 256) (hi : i < 256) : (qT q s).getD i 0 = if i < s then q.getD i 0 else 0 := by
  unfold qT
  rw [List.getD_eq_getElem?_getD, List.getD_eq_getElem?_getD]
  split
  · rename_i h
    rw [List.getElem?_append_left (by rw [List.length_take]; omega), List.getElem?_take_of_lt h]
  · rename_i h
    rw [List.getElem?_append_right (by rw [List.length_take]; omega), List.getElem?_replicate]
    split <;> rfl
theorem qT_0 (q : List Int) : qT q 0 = List.replicate 256 0 := by unfold qT; rw [List.take_zero, List.nil_append]
theorem qT_set (q : List Int) (hl : q.length = 256) (s : Nat) (hs : s < 256) : (qT q s).set s (q.getD s 0) = qT q (s + 1) := by
  apply ext_getDE
  · rw [List.length_set, qT_len q hl s (by omega), qT_len q hl (s + 1) (by omega)]
  · intro i hi
    rw [List.length_set, qT_len q hl s (by omega)] at hi
    rw [qT_get q hl (s + 1) i (by omega) hi]
    by_cases h : i = s
    · subst h
      rw [if_pos (by omega), List.getD_eq_getElem?_getD, List.getElem?_set_self (by rw [qT_len q hl i (by omega)]; exact hi)]
      rfl
    · rw [List.getD_eq_getElem?_getD, List.getElem?_set_ne (by omega), ← List.getD_eq_getElem?_getD, qT_get q hl s i (by omega) hi]
      by_cases h2 : i < s
      · rw [if_pos h2, if_pos (by omega)]
      · rw [if_neg h2, if_neg (by omega)]
theorem zr_zero (q : List Int) : ∀ (d s : Nat), s + d = 256 → ∀ i, s ≤ i → i < s + zr q s → q.getD i 0 = 0
  | 0, s, h, i, h0, h1 => by rw [zr, if_neg (by omega)] at h1; omega
  | d + 1, s, h, i, h0, h1 => by
    have ih := zr_zero q d (s + 1) (by omega)
    rw [zr, if_pos (by omega)] at h1
    by_cases c : q.getD s 0 = 0
    · rw [if_pos c] at h1
      by_cases e : i = s
      · subst e; exact c
      · exact ih i (by omega) (by omega)
    · rw [if_neg c] at h1; omega
theorem qT_skip (q : List Int) (hl : q.length = 256) (s z : Nat) (hz : s + z ≤ 256) (h : ∀ i, s ≤ i → i < s + z → q.getD i 0 = 0) : qT q s = qT q (s + z) := by
  apply ext_getDE
  · rw [qT_len q hl s (by omega), qT_len q hl (s + z) hz]
  · intro i hi
    rw [qT_len q hl s (by omega)] at hi
    rw [qT_get q hl s i (by omega) hi, qT_get q hl (s + z) i hz hi]
    by_cases h1 : i < s
    · rw [if_pos h1, if_pos (by omega)]
    · rw [if_neg h1]
      split
      · rw [h i (by omega) (by omega)]
      · rfl
theorem rs_zero (q : List Int) (hl : q.length = 256) (hn : ∀ x, x ∈ q → 0 ≤ x) : ∀ (d s : Nat), s + d = 256 → rs q s ≤ 0 → ∀ i, s ≤ i → i < 256 → q.getD i 0 = 0
  | 0, s, h, h0, i, h1, h2 => by omega
  | d + 1, s, h, h0, i, h1, h2 => by
    obtain ⟨a, b, c⟩ := getD_le_rs q hl hn s (by omega)
    have hnn := rs_nn q hn (s + 1)
    by_cases e : i = s
    · subst e; omega
    · exact rs_zero q hl hn d (s + 1) (by omega) (by omega) i (by omega) h2
theorem qT_end (q : List Int) (hl : q.length = 256) : qT q 256 = q := by
  unfold qT; rw [List.take_of_length_le (by omega)]; simp
theorem hdk_put {l : List Int} {bs : List Bool} (hB : Beg l bs) (q : List Int) (hl : q.length = 256) (hn : ∀ x, x ∈ q → 0 ≤ x) (hs4 : q.sum ≤ 4096) : ∀ (d s : Nat), s + d = 256 → ∀ (t : Nat) (r : List Bool) (again : Bool), t ≤ bs.length → bs.drop t = hdb q s ++ r → (again = true → q.getD s 0 ≠ 0) →
    hdk l (qT q s) (rs q s) again s t = (q, 0, t + (hdb q s).length) := by
  intro d
  induction d using Nat.strongRecOn with
  | _ d ih =>
  intro s hsd t r again ht hd hag
  have hle := rs_le q hn s
  rw [hdk]
  by_cases c1 : rs q s ≤ 0
  · rw [if_pos c1, hdb, if_pos c1]
    have e := qT_skip q hl s (256 - s) (by omega) (fun i h1 h2 => rs_zero q hl hn d s hsd c1 i h1 (by omega))
    rw [e, show s + (256 - s) = 256 by omega, qT_end q hl]
    simp
  · have c2 : s < 256 := by
      rcases Nat.lt_or_ge s 256 with h | h
      · exact h
      · rw [rs_end q hl s h] at c1; omega
    have hE : hdb q s = bitsN (q.getD s 0) (widN (rs q s)) ++ (if q.getD s 0 = 0 then runBits (zr q (s + 1)) ++ hdb q (s + 1 + zr q (s + 1)) else hdb q (s + 1)) := by
      rw [hdb, if_neg c1, dif_neg (by omega)]
    rw [hE] at hd ⊢
    rw [if_neg c1, dif_neg (by omega)]
    rw [List.append_assoc] at hd
    obtain ⟨q0, q1, q2⟩ := getD_le_rs q hl hn s c2
    have hbk := butk_beg hB t (q.getD s 0) (rs q s) _ ht ⟨by omega, by omega, q0, q1⟩ hd
    obtain ⟨ht1, hd1⟩ := drop_len ht hd
    rw [bitsN_len] at ht1 hd1
    rw [hbk]
    simp only []
    rw [if_neg (by simp)]
    by_cases cv : q.getD s 0 = 0
    · have hA : ¬ (again = true ∧ q.getD s 0 = 0) := fun h => hag h.1 h.2
      rw [if_pos cv] at hd1
      rw [if_neg hA, if_pos cv]
      obtain ⟨z1, z2, z3⟩ := rs_zeros q hl (256 - (s + 1)) (s + 1) (by omega) (by omega)
      rw [List.append_assoc] at hd1
      have hr := takeR_beg hB (254 - (s : Int)) (zr q (s + 1)) (t + widN (rs q s)) _ ht1 hd1 (by omega) (by omega)
      obtain ⟨ht2, hd2⟩ := drop_len ht1 hd1
      rw [if_neg (by omega), hr]
      simp only []
      rw [if_neg (by simp), Int.toNat_natCast]
      have hset := qT_set q hl s c2
      rw [cv] at hset
      have hsk := qT_skip q hl (s + 1) (zr q (s + 1)) (by omega) (zr_zero q (256 - (s + 1)) (s + 1) (by omega))
      have hih := ih (256 - (s + 1 + zr q (s + 1))) (by omega) (s + 1 + zr q (s + 1)) (by omega) _ r true ht2 hd2 (fun _ => z2)
      rw [show rs q (s + 1 + zr q (s + 1)) = rs q s by omega] at hih
      rw [hset, hsk, show s + zr q (s + 1) + 1 = s + 1 + zr q (s + 1) by omega, hih, if_pos cv]
      simp only [List.length_append, bitsN_len, Prod.mk.injEq, true_and]
      omega
    · have hA : ¬ (again = true ∧ q.getD s 0 = 0) := fun h => cv h.2
      rw [if_neg cv] at hd1
      rw [if_neg hA, if_neg cv, qT_set q hl s c2, ← q2]
      rw [ih (256 - (s + 1)) (by omega) (s + 1) (by omega) _ r false ht1 hd1 (fun h => by cases h), if_neg cv]
      simp only [List.length_append, bitsN_len, Prod.mk.injEq, true_and]
      omega
end Go.Proofs.Ytmmfkmkhflieeaa
