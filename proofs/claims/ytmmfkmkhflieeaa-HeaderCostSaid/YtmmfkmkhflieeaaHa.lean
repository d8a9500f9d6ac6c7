/- The layer header: what reads counts, in plain; and the contracts of wrong, must and counts. The layer header: counts. The layer header: Take, which recovers. The reference of the layer header: Take. -/
import Derived.Test.YtmmfkmkhflieeaaRu
import Derived.Deep.RegionHeld3
import Derived.Defers
import Derived.Recover
import Derived.WalkLawsBesides
namespace Go.Proofs.Ytmmfkmkhflieeaa
open Go.RowKit Go.Proofs.YtmmfkmkhflieeaaW.PrintWords Go.Proofs.YtmmfkmkhflieeaaW.PrintLast Go.Proofs.YtmmfkmkhflieeaaW.PrintMore
attribute [local go_sem] max2_int min2_int max_two min_two max_three min_three max_four min_four
set_option linter.unusedSimpArgs false
set_option linter.unusedVariables false
/-- what counts reads: the counts, or why there are none, and how far -/
def hdk (l : List Int) (q : List Int) (left : Int) (again : Bool) (s : Nat) (t : Nat) : List Int × Int × Nat :=
  if left ≤ 0 then (q, 0, t)
  else if h : 256 ≤ s then ([], 13, t)
  else if (butk (8 * l.length) t (numAt l t (widN left)) left).2.1 ≠ 0 then ([], (butk (8 * l.length) t (numAt l t (widN left)) left).2.1, (butk (8 * l.length) t (numAt l t (widN left)) left).2.2)
  else if again = true ∧ (butk (8 * l.length) t (numAt l t (widN left)) left).1 = 0 then ([], 13, (butk (8 * l.length) t (numAt l t (widN left)) left).2.2)
  else if (butk (8 * l.length) t (numAt l t (widN left)) left).1 = 0 then
    if 255 ≤ s then ([], 13, (butk (8 * l.length) t (numAt l t (widN left)) left).2.2)
    else if (takeR l (254 - (s : Int)) (butk (8 * l.length) t (numAt l t (widN left)) left).2.2).2.1 ≠ 0 then ([], (takeR l (254 - (s : Int)) (butk (8 * l.length) t (numAt l t (widN left)) left).2.2).2.1, (takeR l (254 - (s : Int)) (butk (8 * l.length) t (numAt l t (widN left)) left).2.2).2.2)
    else hdk l (q.set s 0) left true (s + (takeR l (254 - (s : Int)) (butk (8 * l.length) t (numAt l t (widN left)) left).2.2).1.toNat + 1) (takeR l (254 - (s : Int)) (butk (8 * l.length) t (numAt l t (widN left)) left).2.2).2.2
  else hdk l (q.set s (butk (8 * l.length) t (numAt l t (widN left)) left).1) (left - (butk (8 * l.length) t (numAt l t (widN left)) left).1) false (s + 1) (butk (8 * l.length) t (numAt l t (widN left)) left).2.2
termination_by 256 - s
def pan (e : Int) : Ending := .panicked [{ v := .iface 40 (.int .i64 e), recovered := false }]
set_option maxHeartbeats 400000 in
theorem wrong_no (w : World) : Calls Try.prog 54 #[.bool false] w fun e w' => e = .returned (.tuple #[]) ∧ w' = w := by
  go_enter Try.func54, Try.ntmps54
  go_wp2
  go_end0
  exact ⟨rfl, rfl⟩
set_option maxHeartbeats 400000 in
theorem wrong_yes (w : World) : Calls Try.prog 54 #[.bool true] w fun e w' => e = pan 13 ∧ w' = w := by
  go_enter Try.func54, Try.ntmps54
  go_wp2
  exact ⟨rfl, rfl, rfl⟩
set_option maxHeartbeats 400000 in
theorem must_ok (n : Int) (w : World) : Calls Try.prog 55 #[.int .i64 n, .int .i64 0] w fun e w' => e = .returned (.int .i64 n) ∧ w' = w := by
  go_enter Try.func55, Try.ntmps55
  go_wp2
  go_ret
  exact ⟨rfl, rfl⟩
set_option maxHeartbeats 400000 in
theorem must_no (n e : Int) (w : World) (he : e ≠ 0) : Calls Try.prog 55 #[.int .i64 n, .int .i64 e] w fun r w' => r = pan e ∧ w' = w := by
  have h0 : (e == 0) = false := by rw [beq_eq_false_iff_ne]; exact he
  have h1 : (e != 0) = true := by rw [bne_iff_ne]; exact he
  go_enter Try.func55, Try.ntmps55
  go_wp2
  exact ⟨rfl, rfl, rfl⟩
end Go.Proofs.Ytmmfkmkhflieeaa
namespace Go.Proofs.Ytmmfkmkhflieeaa
open Go.RowKit Go.Proofs.YtmmfkmkhflieeaaW.PrintWords Go.Proofs.YtmmfkmkhflieeaaW.PrintLast Go.Proofs.YtmmfkmkhflieeaaW.PrintMore
attribute [local go_sem] max2_int min2_int max_two min_two max_three min_three max_four min_four
set_option linter.unusedSimpArgs false
set_option linter.unusedVariables false
theorem info_i64h : (Try.prog.info? 3).map (fun i => (i.zero, i.size, i.bytes)) = some (some (.int .i64 0), 1, 8) := by kernel_rfl
/-- a row of numbers of the call's own, of 256 -/
def rowO (g cap : Nat) (q : List Int) : Ob := owO 3 1 (.slice (some ⟨g, 0, none⟩) 256 cap) 256 (nums .i64 q)
section
variable {w0 W : World} {os : List Ob}
theorem rowO_own {g cap : Nat} {q : List Int} (H : Hold w0 W (rowO g cap q :: os)) : W.ownsRow 0 3 1 (.slice (some ⟨g, 0, none⟩) 256 cap) 256 (nums .i64 q) := by
  obtain ⟨F, h⟩ := H.head
  exact h.1
theorem rowO_store {g cap : Nat} {q : List Int} (H : Hold w0 W (rowO g cap q :: os)) (s : Nat) (x : Int) : Hold w0 (W.setCell ⟨g, s, none⟩ (.int .i64 x)) (rowO g cap (q.set s x) :: os) :=
  H.turn fun F ⟨h1, h2⟩ => by
    obtain ⟨k1, k2⟩ := own_store h1 (s : Int) x
    exact ⟨_, ⟨k1, rfl⟩, Chg.of_grown k2 (fun k e => by rw [h2]; exact e), fun k hk => .inl (by rw [h2]; exact hk)⟩
theorem rowO_cell {g cap : Nat} {q : List Int} (H : Hold w0 W (rowO g cap q :: os)) (s : Nat) (hs : s < 256) (hq : q.length = 256) : W.cell? ⟨g, s, none⟩ = some (.int .i64 (q.getD s 0)) ∧ W.frozen? ⟨g, s, none⟩ = false := by
  have h := rowO_own H
  have hc := h.cells (g := g) rfl s (.int .i64 (q.getD s 0)) (by simp [nums, List.getElem?_eq_getElem (show s < q.length by omega), List.getD_eq_getElem?_getD])
  have ha : (⟨g, 0, none⟩ : Addr).add s = ⟨g, s, none⟩ := by unfold Addr.add; split <;> simp_all
  rw [ha] at hc
  refine ⟨hc, ?_⟩
  rcases h.2 with ⟨h1, _⟩ | ⟨b, c, cur, h1, _, hh, _⟩
  · cases h1
  · injection h1 with h1
    cases h1
    simp [World.frozen?, hh]
end
theorem rep256 : (List.replicate (Int.toNat 256) (0 : Int)).length = 256 := List.length_replicate
/-- how counts ends -/
def CntEnd (w0 : World) (g : Nat) (l : List Int) (os : List Ob) (R : List Int × Int × Nat) (e : Ending) (w' : World) : Prop :=
  (R.2.1 = 0 ∧ R.1.length = 256 ∧ ∃ g1 cap, 256 ≤ cap ∧ e = .returned (.slice (some ⟨g1, 0, none⟩) 256 cap) ∧ Hold w0 w' (rowO g1 cap R.1 :: rdO g l R.2.2 :: os)) ∨
  (R.2.1 ≠ 0 ∧ e = .panicked [{ v := .iface 40 (.int .i64 R.2.1), recovered := false }] ∧ Hold w0 w' (rdO g l R.2.2 :: os))
theorem tkR_bd (l : List Int) (most : Int) : ∀ (j : Nat) (n : Int) (t : Nat), 8 * l.length - t = j → 0 ≤ n → ∀ {v : Int} {t' : Nat}, tkR l most n t = (v, 0, t') → 0 ≤ v ∧ v ≤ most := by
  intro j
  induction j using Nat.strongRecOn with
  | _ j ih =>
  intro n t hj hn v t' h
  rw [tkR] at h
  by_cases hc : t + 2 ≤ 8 * l.length
  · have hb := num2_bd l t
    rw [dif_pos hc] at h
    split at h
    · simp only [Prod.mk.injEq] at h; omega
    · split at h
      · simp only [Prod.mk.injEq] at h; omega
      · exact ih _ (by omega) _ _ rfl (by omega) h
  · rw [dif_neg hc] at h
    simp only [Prod.mk.injEq] at h; omega
theorem takeR_bd {l : List Int} {most : Int} {t : Nat} {v : Int} {t' : Nat} (h : takeR l most t = (v, 0, t')) : 0 ≤ v ∧ v ≤ most := by
  unfold takeR at h
  split at h
  · exact tkR_bd l most _ _ _ rfl (by omega) h
  · simp only [Prod.mk.injEq] at h; omega
set_option maxRecDepth 20000 in
set_option maxHeartbeats 4000000 in
theorem counts_any (w0 W : World) (g : Nat) (l : List Int) (t : Nat) (os : List Ob) (left : Int) (H : Hold w0 W (rdO g l t :: os)) (ht : t ≤ 8 * l.length) (hm : l.length ≤ 1000000) (hok : ∀ x, x ∈ l → 0 ≤ x ∧ x ≤ 255) (hl0 : 1 ≤ left) (hl1 : left ≤ 4096) :
    Calls Try.prog 38 #[.pointer (some ⟨g, 0, none⟩), .int .i64 left] W (CntEnd w0 g l os (hdk l (List.replicate 256 0) left false 0 t)) := by
  have H := Lib.hid H
  have BO := Lib.hid hok
  clear hok
  obtain ⟨R, hR⟩ : ∃ R, hdk l (List.replicate 256 0) left false 0 t = R := ⟨_, rfl⟩
  rw [hR]
  have HR := Lib.hid hR
  clear hR
  go_enter Try.func38, Try.ntmps38
  go_wp2_with (refine Kd.R_make (Kd.int .i64) (w0 := W) W.heap.size 3 rfl (N := 8) rfl 22 _ _ rfl 256 rfl rfl Try.underlying22 (.int .i64 0) 8 info_i64h rfl (by decide) (by omega) 0 (ok := fun _ => True) (okp := fun _ => True) rfl (fun _ hk => hk) trivial (by omega) (by omega) (Below.refl _ _) (Nat.le_refl _) ?_; intro v1 w1 ho hb hg hnew; clear hg hnew; obtain ⟨g1, cap, rfl, hg, hlt, _, hty⟩ := Kd.R_form ho (by rw [rep256]; decide); clear hty; have hcap := (Kd.R_reads' ho).2.1; rw [rep256] at hcap ho ⊢; have ho2 := Kd.own_of_R ho; rw [rep256] at ho2; replace H := Lib.hid (H.out.new (o := rowO g1 cap (List.replicate 256 0)) hb ⟨own_weaken ho2 (Nat.zero_le _), rfl⟩ (fun k hk => own_base ho2 k hk)); clear ho ho2 hb)
  go_loopg [1, 6, 7] 256 (fun k lf ag sl wr => ∃ (q : List Int) (s T : Nat) (Lf : Int) (again : Bool), lf = .int .i64 Lf ∧ ag = .bool again ∧ sl = .int .i64 s ∧ k = 256 - s ∧ s ≤ 256 ∧ 0 ≤ Lf ∧ Lf ≤ 4096 ∧ T ≤ 8 * l.length ∧ Hid (q.length = 256) ∧ Hid (hdk l q Lf again s T = R) ∧ Hid (Hold w0 wr (rowO g1 cap q :: rdO g l T :: os)))
  case atStart => exact ⟨List.replicate 256 0, 0, t, left, false, rfl, rfl, rfl, rfl, by omega, by omega, hl1, ht, Lib.hid List.length_replicate, HR, H⟩
  case round =>
    obtain ⟨q, s, T, Lf, again, rfl, rfl, rfl, hk, hs, h0, h1, hT, HQL, HR2, hH⟩ := hrel
    have HK := Lib.hid hk
    clear H HR hk
    have H := hH
    have HT := Lib.hid hT
    clear hH hT
    have hR := HR2.out
    rw [hdk] at hR
    clear HR2
    by_cases c1 : Lf ≤ 0
    · rw [if_pos c1] at hR
      have z1 : decide (0 < Lf) = false := decide_eq_false (by omega)
      go_wp2
      subst hR
      go_ret
      exact .inl ⟨rfl, HQL.out, _, _, hcap, rfl, H.out⟩
    · rw [if_neg c1] at hR
      have z1 : decide (0 < Lf) = true := decide_eq_true (by omega)
      by_cases c2 : 256 ≤ s
      · rw [dif_pos c2] at hR
        obtain rfl : s = 256 := by omega
        have HR := Lib.hid hR
        clear hR
        go_wp2_with (go_at_call 54; (with_reducible refine (wrong_yes _).mono ?_); unfold pan; rintro e w2 ⟨rfl, rfl⟩)
        have hR := HR.out
        subst hR
        refine ⟨rfl, ?_⟩
        exact .inr ⟨show (13 : Int) ≠ 0 by decide, rfl, H.out.drop⟩
      · rw [dif_neg c2] at hR
        obtain ⟨v, e1, t1, hb⟩ : ∃ v e1 t1, butk (8 * l.length) T (numAt l T (widN Lf)) Lf = (v, e1, t1) := ⟨_, _, _, rfl⟩
        rw [hb] at hR
        simp only [] at hR
        have z2 : ((s : Int) == 256) = false := by rw [beq_eq_false_iff_ne]; omega
        have i0 : (0 : Int) ≤ (s : Int) := by omega
        have i1 : (s : Int) < 256 := by omega
        have hnum := numAt_bd l T (widN Lf)
        have hle := butk_le hb HT.out
        have HLE := Lib.hid hle
        have HTK := Lib.hid (fun W os (h : Hold w0 W (rdO g l T :: os)) => hTake_bu h HT.out (by omega) BO.out (by omega) (by omega) hb)
        have hbo := butk_ok hb (by omega) h1 hnum.1
        clear hle hb hnum
        by_cases c3 : e1 ≠ 0
        · rw [if_pos c3] at hR
          have HR := Lib.hid hR
          have HMU := Lib.hid (fun W => must_no v e1 W c3)
          have C3 := Lib.hid c3
          clear hR hbo c3
          go_wp2_with (first
            | (go_at_call 54; (with_reducible refine (wrong_no _).mono ?_); rintro e w2 ⟨rfl, rfl⟩)
            | (go_at_call 56; (with_reducible refine (HTK.out _ _ H.out.swap).mono ?_); rintro e w2 ⟨rfl, h⟩; replace H := Lib.hid h; clear h)
            | (go_at_call 55; (with_reducible refine (HMU.out _).mono ?_); unfold pan; rintro e w2 ⟨rfl, rfl⟩))
          have hR := HR.out
          subst hR
          refine ⟨rfl, ?_⟩
          exact .inr ⟨C3.out, rfl, H.out.swap.drop⟩
        · rw [if_neg c3] at hR
          obtain rfl : e1 = 0 := Decidable.byContradiction c3
          obtain ⟨v0, v1⟩ : 0 ≤ v ∧ v ≤ Lf := by
            rcases hbo with ⟨_, _, _, _, _, hcb⟩ | ⟨_, he⟩
            · exact ⟨hcb.2.2.1, hcb.2.2.2⟩
            · omega
          have z5 : IntKind.i64.wrap (Lf - v) = Lf - v := IntWalk.i64_in _ (by omega)
          clear hbo c3
          have HQ2 := Lib.hid (show (q.set s v).length = 256 by rw [List.length_set]; exact HQL.out)
          by_cases cv : v = 0
          · subst cv
            have z7 : IntKind.i64.wrap Lf = Lf := IntWalk.i64_in _ (by omega)
            cases again with
            | true =>
              rw [if_pos ⟨rfl, rfl⟩] at hR
              have HR := Lib.hid hR
              clear hR
              have S1 := Lib.hid trivial
              go_wp2_with (first
                | (go_at_call 54; clear S1; (with_reducible refine (wrong_no _).mono ?_); rintro e w2 ⟨rfl, rfl⟩)
                | (go_at_call 54; (with_reducible refine (wrong_yes _).mono ?_); unfold pan; rintro e w2 ⟨rfl, rfl⟩)
                | (go_at_call 56; (with_reducible refine (HTK.out _ _ H.out.swap).mono ?_); rintro e w2 ⟨rfl, h⟩; obtain ⟨hc, hf⟩ := rowO_cell h.swap s (by omega) HQL.out; replace H := Lib.hid (rowO_store h.swap s 0); clear h)
                | (go_at_call 55; (with_reducible refine (must_ok _ _).mono ?_); rintro e w3 ⟨rfl, rfl⟩))
              have hR := HR.out
              subst hR
              refine ⟨rfl, ?_⟩
              exact .inr ⟨show (13 : Int) ≠ 0 by decide, rfl, H.out.drop⟩
            | false =>
              rw [if_neg (by simp), if_pos rfl] at hR
              by_cases c6 : 255 ≤ s
              · rw [if_pos c6] at hR
                obtain rfl : s = 255 := by omega
                have HR := Lib.hid hR
                clear hR
                have S1 := Lib.hid trivial
                have S2 := Lib.hid trivial
                go_wp2_with (first
                  | (go_at_call 54; clear S1; (with_reducible refine (wrong_no _).mono ?_); rintro e w2 ⟨rfl, rfl⟩)
                  | (go_at_call 54; clear S2; (with_reducible refine (wrong_no _).mono ?_); rintro e w2 ⟨rfl, rfl⟩)
                  | (go_at_call 54; (with_reducible refine (wrong_yes _).mono ?_); unfold pan; rintro e w2 ⟨rfl, rfl⟩)
                  | (go_at_call 56; (with_reducible refine (HTK.out _ _ H.out.swap).mono ?_); rintro e w2 ⟨rfl, h⟩; obtain ⟨hc, hf⟩ := rowO_cell h.swap 255 (by omega) HQL.out; replace H := Lib.hid (rowO_store h.swap 255 0); clear h)
                  | (go_at_call 55; (with_reducible refine (must_ok _ _).mono ?_); rintro e w3 ⟨rfl, rfl⟩))
                have hR := HR.out
                subst hR
                refine ⟨rfl, ?_⟩
                exact .inr ⟨show (13 : Int) ≠ 0 by decide, rfl, H.out.drop⟩
              · rw [if_neg c6] at hR
                obtain ⟨n, f, t2, hr⟩ : ∃ n f t2, takeR l (254 - (s : Int)) t1 = (n, f, t2) := ⟨_, _, _, rfl⟩
                rw [hr] at hR
                simp only [] at hR
                have HTR := Lib.hid (fun W os (h : Hold w0 W (rdO g l t1 :: os)) => hTake_ru h HLE.out (by omega) BO.out hr)
                have HL2 := Lib.hid (takeR_le hr HLE.out)
                have z8 : ((s : Int) + 1 == 256) = false := by rw [beq_eq_false_iff_ne]; omega
                have z9 : IntKind.i64.wrap (254 - (s : Int)) = 254 - (s : Int) := IntWalk.i64_in _ (by omega)
                by_cases c7 : f ≠ 0
                · rw [if_pos c7] at hR
                  have HR := Lib.hid hR
                  have HMU := Lib.hid (fun W => must_no n f W c7)
                  have C7 := Lib.hid c7
                  clear hR hr c7
                  have S1 := Lib.hid trivial
                  go_wp2_with (first
                    | (go_at_call 54; (with_reducible refine (wrong_no _).mono ?_); rintro e w2 ⟨rfl, rfl⟩)
                    | (go_at_call 56; (with_reducible refine (HTK.out _ _ H.out.swap).mono ?_); rintro e w2 ⟨rfl, h⟩; obtain ⟨hc, hf⟩ := rowO_cell h.swap s (by omega) HQL.out; replace H := Lib.hid (rowO_store h.swap s 0); clear h)
                    | (go_at_call 55; clear S1; (with_reducible refine (must_ok _ _).mono ?_); rintro e w3 ⟨rfl, rfl⟩)
                    | (go_at_call 57; (with_reducible refine (HTR.out _ _ H.out.swap).mono ?_); rintro e w2 ⟨rfl, h⟩; replace H := Lib.hid h; clear h)
                    | (go_at_call 55; (with_reducible refine (HMU.out _).mono ?_); unfold pan; rintro e w2 ⟨rfl, rfl⟩))
                  have hR := HR.out
                  subst hR
                  refine ⟨rfl, ?_⟩
                  exact .inr ⟨C7.out, rfl, H.out.swap.drop⟩
                · rw [if_neg c7] at hR
                  obtain rfl : f = 0 := Decidable.byContradiction c7
                  obtain ⟨n0, n1⟩ := takeR_bd hr
                  obtain ⟨N, rfl⟩ : ∃ N : Nat, n = (N : Int) := ⟨n.toNat, by omega⟩
                  rw [Int.toNat_natCast] at hR
                  have HR := Lib.hid hR
                  clear hR hr c7
                  go_wp2_with (first
                    | (go_at_call 54; (with_reducible refine (wrong_no _).mono ?_); rintro e w2 ⟨rfl, rfl⟩)
                    | (go_at_call 56; (with_reducible refine (HTK.out _ _ H.out.swap).mono ?_); rintro e w2 ⟨rfl, h⟩; obtain ⟨hc, hf⟩ := rowO_cell h.swap s (by omega) HQL.out; replace H := Lib.hid (rowO_store h.swap s 0); clear h)
                    | (go_at_call 55; (with_reducible refine (must_ok _ _).mono ?_); rintro e w3 ⟨rfl, rfl⟩)
                    | (go_at_call 57; (with_reducible refine (HTR.out _ _ H.out.swap).mono ?_); rintro e w2 ⟨rfl, h⟩; replace H := Lib.hid h.swap; clear h))
                  go_roundg (256 - (s + N + 1))
                  case measure => have := HK.out; omega
                  case rel => exact ⟨_, s + N + 1, t2, Lf, true, rfl, rfl, by go_num, rfl, by omega, by omega, by omega, HL2.out, HQ2, HR, H⟩
          · have hA : ¬ (again = true ∧ v = 0) := fun h => cv h.2
            rw [if_neg hA, if_neg cv] at hR
            have zv : (v == 0) = false := by rw [beq_eq_false_iff_ne]; exact cv
            have HR := Lib.hid hR
            clear hR hA cv
            cases again
            all_goals
              go_wp2_with (first
                | (go_at_call 54; (with_reducible refine (wrong_no _).mono ?_); rintro e w2 ⟨rfl, rfl⟩)
                | (go_at_call 56; (with_reducible refine (HTK.out _ _ H.out.swap).mono ?_); rintro e w2 ⟨rfl, h⟩; obtain ⟨hc, hf⟩ := rowO_cell h.swap s (by omega) HQL.out; replace H := Lib.hid (rowO_store h.swap s v); clear h)
                | (go_at_call 55; (with_reducible refine (must_ok _ _).mono ?_); rintro e w3 ⟨rfl, rfl⟩))
              go_roundg (256 - (s + 1))
              case measure => have := HK.out; omega
              case rel => exact ⟨_, s + 1, t1, Lf - v, false, rfl, rfl, by go_num, rfl, by omega, by omega, by omega, HLE.out, HQ2, HR, H⟩
end Go.Proofs.Ytmmfkmkhflieeaa
namespace Go.Proofs.Ytmmfkmkhflieeaa
open Go.RowKit Go.Proofs.YtmmfkmkhflieeaaW.PrintWords Go.Proofs.YtmmfkmkhflieeaaW.PrintLast Go.Proofs.YtmmfkmkhflieeaaW.PrintMore
attribute [local go_sem] max2_int min2_int max_two min_two max_three min_three max_four min_four
set_option linter.unusedSimpArgs false
set_option linter.unusedVariables false
theorem ta_nil (w : World) : (Instr.typeAssert .nilIface 20 40 true).run Try.prog w = .ok (.tuple #[.int .i64 0, .bool false]) w := by kernel_rfl
theorem ta_yes (e : Int) (w : World) : (Instr.typeAssert (.iface 40 (.int .i64 e)) 20 40 true).run Try.prog w = .ok (.tuple #[.int .i64 e, .bool true]) w := by kernel_rfl
theorem catch_idle (p q : Addr) (w : World) :
    CallsD Try.prog 37 #[.pointer (some p), .pointer (some q)] .returning w fun e u' w' => e = .returned (.tuple #[]) ∧ u' = .returning ∧ w' = w := by
  refine callsD_of_wpS Try.func37 rfl fun c₀ cs hu => ?_
  apply wpS_seq
  apply wpS_region
  simp [wpOpsS, go_sem, recoverD, hu, Try.ntmps37, Exit.thenS, ta_nil]
  apply wpS_seq
  apply wpS_region
  simp [wpOpsS, go_sem, Exit.thenS]
  refine wpS_cond (t := false) (by simp [Act.eval, Array.replicate]) ?_
  simp only [Bool.false_eq_true, if_false]
  refine wpS_of_wp (wp_skip ?_)
  cases c₀
  simp_all [bodyPostS, results, Try.results37, Exit.thenS]
theorem catch_panicking (p q : Addr) (v0 : Value) (x0 e : Int) (older : List PanicEntry) (w : World) (hp : w.cell? p = some v0) (hpf : w.frozen? p = false) (hq : w.cell? q = some (.int .i64 x0)) (hqf : w.frozen? q = false) (hne : p.block ≠ q.block) :
    CallsD Try.prog 37 #[.pointer (some p), .pointer (some q)] (.panicking ({ v := .iface 40 (.int .i64 e), recovered := false } :: older)) w fun r u' w' =>
      r = .returned (.tuple #[]) ∧ u' = .panicking ({ v := .iface 40 (.int .i64 e), recovered := true } :: older) ∧ w' = (w.setCell p (.slice none 0 0)).setCell q (.int .i64 e) := by
  refine callsD_of_wpS Try.func37 rfl fun c₀ cs hu => ?_
  apply wpS_seq
  apply wpS_region
  simp [wpOpsS, go_sem, recoverD, hu, Try.ntmps37, Exit.thenS, ta_yes]
  apply wpS_seq
  apply wpS_region
  simp [wpOpsS, go_sem, Exit.thenS]
  refine wpS_cond (t := true) (by simp [Act.eval, Array.replicate]) ?_
  simp only [if_true]
  apply wpS_region
  have hq2 : (w.setCell p (.slice none 0 0)).cell? q = some (.int .i64 x0) := by rw [World.cell?_setCell_other _ _ _ _ (fun h => hne (by rw [h]))]; exact hq
  have hq3 : (w.setCell p (.slice none 0 0)).frozen? q = false := by simp [hqf]
  simp [wpOpsS, go_sem, hp, hpf, hq2, hq3, bodyPostS, results, Try.results37]
/-- a variable that a call has made -/
def celO (b : Nat) (v : Value) (T : TypeId) : Ob where
  P W F := W.heap[b]? = some (.cells #[v] T (0, 0)) ∧ F = fun k => k = b
  loc := by
    rintro W W' F ⟨h, rfl⟩ hk
    exact ⟨by rw [hk b rfl]; exact h, rfl⟩
  lt := by
    rintro W F ⟨h, rfl⟩ k rfl
    exact blk_lt h
section
variable {w0 W : World} {os : List Ob}
theorem celO_new (H : Hold w0 W os) (v : Value) (T : TypeId) : Hold w0 (W.alloc (.cells #[v] T)) (celO W.heap.size v T :: os) :=
  H.new ((Below.refl _ _).alloc (Nat.le_refl _) _) ⟨heap_alloc_new W _, rfl⟩ (fun k hk => by rw [hk]; exact Nat.le_refl _)
theorem celO_at {b : Nat} {v : Value} {T : TypeId} (H : Hold w0 W (celO b v T :: os)) : W.cell? ⟨b, 0, none⟩ = some v ∧ W.frozen? ⟨b, 0, none⟩ = false := by
  obtain ⟨F, h, _⟩ := H.head
  exact ⟨by rw [blk_cell h]; rfl, blk_frozen h 0⟩
theorem celO_set {b : Nat} {v : Value} {T : TypeId} (H : Hold w0 W (celO b v T :: os)) (u : Value) : Hold w0 (W.setCell ⟨b, 0, none⟩ u) (celO b u T :: os) :=
  H.turn fun F ⟨h1, h2⟩ => ⟨_, ⟨by have := blk_set h1 0 u; simpa using this, rfl⟩, Chg.of_grown (grown_set W b 0 u) (fun k e => by rw [h2]; injection e with e; exact e.symm), fun k hk => .inl (by rw [h2]; exact hk)⟩
theorem counts_ok (w0 W : World) (g : Nat) (l : List Int) (t : Nat) (os : List Ob) (left : Int) (H : Hold w0 W (rdO g l t :: os)) (ht : t ≤ 8 * l.length) (hm : l.length ≤ 1000000) (hok : ∀ x, x ∈ l → 0 ≤ x ∧ x ≤ 255) (hl0 : 1 ≤ left) (hl1 : left ≤ 4096)
    {q : List Int} {t1 : Nat} (hR : hdk l (List.replicate 256 0) left false 0 t = (q, 0, t1)) :
    Calls Try.prog 38 #[.pointer (some ⟨g, 0, none⟩), .int .i64 left] W fun e w' => ∃ g1 cap, 256 ≤ cap ∧ q.length = 256 ∧ e = .returned (.slice (some ⟨g1, 0, none⟩) 256 cap) ∧ Hold w0 w' (rowO g1 cap q :: rdO g l t1 :: os) := by
  refine (counts_any w0 W g l t os left H ht hm hok hl0 hl1).mono ?_
  rw [hR]
  rintro e w' (⟨_, h1, g1, cap, h2, h3, h4⟩ | ⟨h, _⟩)
  · exact ⟨g1, cap, h2, h1, h3, h4⟩
  · exact absurd rfl h
theorem counts_no (w0 W : World) (g : Nat) (l : List Int) (t : Nat) (os : List Ob) (left : Int) (H : Hold w0 W (rdO g l t :: os)) (ht : t ≤ 8 * l.length) (hm : l.length ≤ 1000000) (hok : ∀ x, x ∈ l → 0 ≤ x ∧ x ≤ 255) (hl0 : 1 ≤ left) (hl1 : left ≤ 4096)
    {q : List Int} {t1 : Nat} {er : Int} (he : er ≠ 0) (hR : hdk l (List.replicate 256 0) left false 0 t = (q, er, t1)) :
    Calls Try.prog 38 #[.pointer (some ⟨g, 0, none⟩), .int .i64 left] W fun e w' => e = .panicked [{ v := .iface 40 (.int .i64 er), recovered := false }] ∧ Hold w0 w' (rdO g l t1 :: os) := by
  refine (counts_any w0 W g l t os left H ht hm hok hl0 hl1).mono ?_
  rw [hR]
  rintro e w' (⟨h, _⟩ | ⟨_, h1, h2⟩)
  · exact absurd h he
  · exact ⟨h1, h2⟩
set_option maxRecDepth 20000 in
set_option maxHeartbeats 2000000 in
theorem htake_no (g : Nat) (log : Int) (h : log < 1 ∨ 12 < log) (H : Hold w0 W os) :
    Calls Try.prog 19 #[.pointer (some ⟨g, 0, none⟩), .int .i64 log] W fun e w' => e = .returned (.tuple #[.slice none 0 0, .int .i64 1]) ∧ Hold w0 w' os := by
  have H := Lib.hid H
  rcases h with h | h
  · have z1 : decide (log < 1) = true := decide_eq_true h
    go_enter_defers Try.func19, Try.ntmps19
    go_wp2
    simp [bodyPostD, Leaves, settle, results, Try.results19, go_sem]
    exact H.out.below (((Below.refl _ _).alloc (Nat.le_refl _) _).alloc (by simp) _)
  · have z1 : decide (log < 1) = false := decide_eq_false (by omega)
    have z2 : decide (12 < log) = true := decide_eq_true h
    go_enter_defers Try.func19, Try.ntmps19
    go_wp2
    simp [bodyPostD, Leaves, settle, results, Try.results19, go_sem]
    exact H.out.below (((Below.refl _ _).alloc (Nat.le_refl _) _).alloc (by simp) _)
theorem Hold.fourth {o o1 o2 o3 : Ob} (h : Hold w0 W (o :: o1 :: o2 :: o3 :: os)) : Hold w0 W (o3 :: o :: o1 :: o2 :: os) := by
  obtain ⟨B, F, S⟩ := h
  cases S with
  | cons p a S =>
    cases S with
    | cons p1 a1 S =>
      cases S with
      | cons p2 a2 S =>
        cases S with
        | cons p3 a3 S =>
          refine ⟨B, _, .cons p3 (fun k hk => ⟨(a3 k hk).1, fun h => ?_⟩) (.cons p (fun k hk => ⟨(a k hk).1, fun h => (a k hk).2 (h.elim .inl (fun h => h.elim (fun h => .inr (.inl h)) (fun h => .inr (.inr (.inr h)))))⟩) (.cons p1 (fun k hk => ⟨(a1 k hk).1, fun h => (a1 k hk).2 (h.elim .inl (fun h => .inr (.inr h)))⟩) (.cons p2 (fun k hk => ⟨(a2 k hk).1, fun h => (a2 k hk).2 (.inr h)⟩) S)))⟩
          rcases h with h | h | h | h
          · exact (a k h).2 (.inr (.inr (.inl hk)))
          · exact (a1 k h).2 (.inr (.inl hk))
          · exact (a2 k h).2 (.inl hk)
          · exact (a3 k hk).2 h
set_option maxRecDepth 20000 in
set_option maxHeartbeats 2000000 in
theorem htake_ok (g : Nat) (l : List Int) (t k : Nat) (H : Hold w0 W (rdO g l t :: os)) (ht : t ≤ 8 * l.length) (hm : l.length ≤ 1000000) (hok : ∀ x, x ∈ l → 0 ≤ x ∧ x ≤ 255) (hk0 : 1 ≤ k) (hk1 : k ≤ 12)
    {q : List Int} {t1 : Nat} (hR : hdk l (List.replicate 256 0) (p2 k) false 0 t = (q, 0, t1)) :
    Calls Try.prog 19 #[.pointer (some ⟨g, 0, none⟩), .int .i64 (k : Int)] W fun e w' => ∃ g1 cap, e = .returned (.tuple #[.slice (some ⟨g1, 0, none⟩) 256 cap, .int .i64 0]) ∧ 256 ≤ cap ∧ q.length = 256 ∧ Hold w0 w' (rowO g1 cap q :: rdO g l t1 :: os) := by
  have hp := p2_mono hk1
  rw [show p2 12 = 4096 by decide] at hp
  have hp0 := p2_pos k
  have HC := Lib.hid (fun W os (h : Hold w0 W (rdO g l t :: os)) => counts_ok w0 W g l t os (p2 k) h ht hm hok (by omega) hp hR)
  have z1 : decide ((k : Int) < 1) = false := decide_eq_false (by omega)
  have z2 : decide (12 < (k : Int)) = false := decide_eq_false (by omega)
  have H0 := celO_new (celO_new H (.slice none 0 0) 22) (.int .i64 0) 40
  rw [show (W.alloc (Obj.cells #[.slice none 0 0] 22)).heap.size = W.heap.size + 1 by simp] at H0
  replace H0 := Lib.hid H0.third
  have hmf : ∀ (fn : Fn) (first cap : Array Value) (w : World), (Instr.makeFunc fn first cap).run Try.prog w = .ok (.func fn first cap) w := fun _ _ _ _ => rfl
  have e1 : (2 : Int) ^ k = p2 k := by unfold p2; simp
  clear H hR hok
  generalize p2 k = P at *
  go_enter_defers Try.func19, Try.ntmps19
  go_wp2_with (go_at_call 38; (with_reducible refine (HC.out _ _ H0.out).mono ?_); rintro e w1 ⟨g1, cap, h2, h1, rfl, h⟩; obtain ⟨b0, b1⟩ := celO_at h.third; obtain ⟨a0, a1⟩ := celO_at h.fourth; have H3 := Lib.hid (celO_set (celO_set h.fourth (.slice (some ⟨g1, 0, none⟩) 256 cap)).fourth (.int .i64 0)); clear h)
  have f1 := celO_at H3.out
  have f0 := celO_at H3.out.swap
  refine leaves_cons (f := 37) (args := #[.pointer (some ⟨W.heap.size, 0, none⟩), .pointer (some ⟨W.heap.size + 1, 0, none⟩)]) (by simp) (by simp [go_sem]) ?_
  refine (catch_idle _ _ _).mono ?_
  rintro e u' w'' ⟨rfl, rfl, rfl⟩
  simp [Leaves, settle, results, Try.results19, go_sem, f0, f1, b0, a0]
  exact ⟨g1, cap, by simp, h2, h1, H3.out.drop.drop⟩
set_option maxRecDepth 20000 in
set_option maxHeartbeats 2000000 in
theorem htake_err (g : Nat) (l : List Int) (t k : Nat) (H : Hold w0 W (rdO g l t :: os)) (ht : t ≤ 8 * l.length) (hm : l.length ≤ 1000000) (hok : ∀ x, x ∈ l → 0 ≤ x ∧ x ≤ 255) (hk0 : 1 ≤ k) (hk1 : k ≤ 12)
    {q : List Int} {t1 : Nat} {er : Int} (he : er ≠ 0) (hR : hdk l (List.replicate 256 0) (p2 k) false 0 t = (q, er, t1)) :
    Calls Try.prog 19 #[.pointer (some ⟨g, 0, none⟩), .int .i64 (k : Int)] W fun e w' => e = .returned (.tuple #[.slice none 0 0, .int .i64 er]) ∧ Hold w0 w' (rdO g l t1 :: os) := by
  have hp := p2_mono hk1
  rw [show p2 12 = 4096 by decide] at hp
  have hp0 := p2_pos k
  have HC := Lib.hid (fun W os (h : Hold w0 W (rdO g l t :: os)) => counts_no w0 W g l t os (p2 k) h ht hm hok (by omega) hp he hR)
  have z1 : decide ((k : Int) < 1) = false := decide_eq_false (by omega)
  have z2 : decide (12 < (k : Int)) = false := decide_eq_false (by omega)
  have H0 := celO_new (celO_new H (.slice none 0 0) 22) (.int .i64 0) 40
  rw [show (W.alloc (Obj.cells #[.slice none 0 0] 22)).heap.size = W.heap.size + 1 by simp] at H0
  replace H0 := Lib.hid H0.third
  have hmf : ∀ (fn : Fn) (first cap : Array Value) (w : World), (Instr.makeFunc fn first cap).run Try.prog w = .ok (.func fn first cap) w := fun _ _ _ _ => rfl
  have e1 : (2 : Int) ^ k = p2 k := by unfold p2; simp
  clear H hR hok he
  generalize p2 k = P at *
  go_enter_defers Try.func19, Try.ntmps19
  go_wp2_with (go_at_call 38; (with_reducible refine (HC.out _ _ H0.out).mono ?_); rintro e w1 ⟨rfl, h⟩; obtain ⟨b0, b1⟩ := celO_at h.swap; obtain ⟨a0, a1⟩ := celO_at h.third; have H3 := Lib.hid (celO_set (celO_set h.third (.slice none 0 0)).third (.int .i64 er)); clear h)
  have f1 := celO_at H3.out
  have f0 := celO_at H3.out.swap
  refine leaves_cons (f := 37) (args := #[.pointer (some ⟨W.heap.size, 0, none⟩), .pointer (some ⟨W.heap.size + 1, 0, none⟩)]) (by simp) (by simp [go_sem]) ?_
  refine (catch_panicking _ _ _ _ _ _ _ a0 a1 b0 b1 (by simp)).mono ?_
  rintro e u' w'' ⟨rfl, rfl, rfl⟩
  simp [Leaves, settle, results, Try.results19, go_sem, f0, f1]
  exact H3.out.drop.drop
end
end Go.Proofs.Ytmmfkmkhflieeaa
namespace Go.Proofs.Ytmmfkmkhflieeaa
open Go.RowKit Go.Proofs.YtmmfkmkhflieeaaW.PrintWords Go.Proofs.YtmmfkmkhflieeaaW.PrintLast Go.Proofs.YtmmfkmkhflieeaaW.PrintMore
attribute [local go_sem] max2_int min2_int max_two min_two max_three min_three max_four min_four
set_option linter.unusedSimpArgs false
set_option linter.unusedVariables false
/-- how the reference's Take ends -/
def RtkEnd (w0 : World) (g : Nat) (l : List Int) (os : List Ob) (R : List Int × Int × Nat) (e : Ending) (w' : World) : Prop :=
  (R.2.1 = 0 ∧ R.1.length = 256 ∧ ∃ g1 cap, 256 ≤ cap ∧ e = .returned (.tuple #[.slice (some ⟨g1, 0, none⟩) 256 cap, .int .i64 0]) ∧ Hold w0 w' (rowO g1 cap R.1 :: qrO g (bitsOf l) R.2.2 :: os)) ∨
  (R.2.1 ≠ 0 ∧ e = .returned (.tuple #[.slice none 0 0, .int .i64 R.2.1]) ∧ Hold w0 w' (qrO g (bitsOf l) R.2.2 :: os))
set_option maxRecDepth 20000 in
set_option maxHeartbeats 4000000 in
theorem rtake_any (w0 W : World) (g : Nat) (l : List Int) (t k : Nat) (os : List Ob) (H : Hold w0 W (qrO g (bitsOf l) t :: os)) (ht : t ≤ 8 * l.length) (hm : l.length ≤ 1000000) (hk0 : 1 ≤ k) (hk1 : k ≤ 12) :
    Calls Try.prog 20 #[.pointer (some ⟨g, 0, none⟩), .int .i64 (k : Int)] W (RtkEnd w0 g l os (hdk l (List.replicate 256 0) (p2 k) false 0 t)) := by
  have H := Lib.hid H
  obtain ⟨R, hR⟩ : ∃ R, hdk l (List.replicate 256 0) (p2 k) false 0 t = R := ⟨_, rfl⟩
  rw [hR]
  have HR := Lib.hid hR
  have hp := p2_mono hk1
  rw [show p2 12 = 4096 by decide] at hp
  have hp0 := p2_pos k
  have z1 : decide ((k : Int) < 1) = false := decide_eq_false (by omega)
  have z2 : decide (12 < (k : Int)) = false := decide_eq_false (by omega)
  have e1 : (2 : Int) ^ k = p2 k := by unfold p2; simp
  clear hR
  generalize p2 k = P at *
  go_enter Try.func20, Try.ntmps20
  go_wp2_with (refine Kd.R_make (Kd.int .i64) (w0 := W) W.heap.size 3 rfl (N := 20) rfl 22 _ _ rfl 256 rfl rfl Try.underlying22 (.int .i64 0) 8 info_i64h rfl (by decide) (by omega) 0 (ok := fun _ => True) (okp := fun _ => True) rfl (fun _ hk => hk) trivial (by omega) (by omega) (Below.refl _ _) (Nat.le_refl _) ?_; intro v1 w1 ho hb hg hnew; clear hg hnew; obtain ⟨g1, cap, rfl, hg, hlt, _, hty⟩ := Kd.R_form ho (by rw [rep256]; decide); clear hty; have hcap := (Kd.R_reads' ho).2.1; rw [rep256] at hcap ho ⊢; have ho2 := Kd.own_of_R ho; rw [rep256] at ho2; replace H := Lib.hid (H.out.new (o := rowO g1 cap (List.replicate 256 0)) hb ⟨own_weaken ho2 (Nat.zero_le _), rfl⟩ (fun k hk => own_base ho2 k hk)); clear ho ho2 hb)
  clear e1
  go_loopg [7, 8, 9] 256 (fun k lf sl ag wr => ∃ (q : List Int) (s T : Nat) (Lf : Int) (again : Bool), lf = .int .i64 Lf ∧ ag = .bool again ∧ sl = .int .i64 s ∧ k = 256 - s ∧ s ≤ 256 ∧ 0 ≤ Lf ∧ Lf ≤ 4096 ∧ T ≤ 8 * l.length ∧ Hid (q.length = 256) ∧ Hid (hdk l q Lf again s T = R) ∧ Hid (Hold w0 wr (rowO g1 cap q :: qrO g (bitsOf l) T :: os)))
  case atStart => exact ⟨List.replicate 256 0, 0, t, P, false, rfl, rfl, rfl, rfl, by omega, by omega, hp, ht, Lib.hid List.length_replicate, HR, H⟩
  case round =>
    obtain ⟨q, s, T, Lf, again, rfl, rfl, rfl, hk, hs, h0, h1, hT, HQL, HR2, hH⟩ := hrel
    have HK := Lib.hid hk
    clear H HR hk
    have H := hH
    have HT := Lib.hid hT
    clear hH hT
    have hR := HR2.out
    rw [hdk] at hR
    clear HR2
    by_cases c1 : Lf ≤ 0
    · rw [if_pos c1] at hR
      have z1 : decide (0 < Lf) = false := decide_eq_false (by omega)
      go_wp2
      subst hR
      go_ret2
      exact .inl ⟨rfl, HQL.out, _, _, hcap, rfl, H.out⟩
    · rw [if_neg c1] at hR
      have z1 : decide (0 < Lf) = true := decide_eq_true (by omega)
      by_cases c2 : 256 ≤ s
      · rw [dif_pos c2] at hR
        obtain rfl : s = 256 := by omega
        go_wp2
        subst hR
        go_ret2
        exact .inr ⟨show (13 : Int) ≠ 0 by decide, rfl, H.out.drop⟩
      · rw [dif_neg c2] at hR
        obtain ⟨v, e1, t1, hb⟩ : ∃ v e1 t1, butk (8 * l.length) T (numAt l T (widN Lf)) Lf = (v, e1, t1) := ⟨_, _, _, rfl⟩
        rw [hb] at hR
        simp only [] at hR
        have z2 : decide (255 < (s : Int)) = false := decide_eq_false (by omega)
        have i0 : (0 : Int) ≤ (s : Int) := by omega
        have i1 : (s : Int) < 256 := by omega
        have hnum := numAt_bd l T (widN Lf)
        have hle := butk_le hb HT.out
        have HLE := Lib.hid hle
        have HTK := Lib.hid (fun W os (h : Hold w0 W (qrO g (bitsOf l) T :: os)) => hTake_qbu h HT.out (by omega) (by omega) hb)
        have hbo := butk_ok hb (by omega) h1 hnum.1
        clear hle hb hnum
        by_cases c3 : e1 ≠ 0
        · rw [if_pos c3] at hR
          have HR := Lib.hid hR
          have C3 := Lib.hid c3
          have zc : (e1 != 0) = true := by rw [bne_iff_ne]; exact c3
          have zd : (e1 == 0) = false := by rw [beq_eq_false_iff_ne]; exact c3
          clear hR hbo c3
          go_wp2_with (go_at_call 39; (with_reducible refine (HTK.out _ _ H.out.swap).mono ?_); rintro e w2 ⟨rfl, h⟩; replace H := Lib.hid h; clear h)
          have hR := HR.out
          subst hR
          go_ret2
          exact .inr ⟨C3.out, rfl, H.out.swap.drop⟩
        · rw [if_neg c3] at hR
          obtain rfl : e1 = 0 := Decidable.byContradiction c3
          obtain ⟨v0, v1⟩ : 0 ≤ v ∧ v ≤ Lf := by
            rcases hbo with ⟨_, _, _, _, _, hcb⟩ | ⟨_, he⟩
            · exact ⟨hcb.2.2.1, hcb.2.2.2⟩
            · omega
          have z5 : IntKind.i64.wrap (Lf - v) = Lf - v := IntWalk.i64_in _ (by omega)
          clear hbo c3
          have HQ2 := Lib.hid (show (q.set s v).length = 256 by rw [List.length_set]; exact HQL.out)
          by_cases cv : v = 0
          · subst cv
            have z7 : IntKind.i64.wrap Lf = Lf := IntWalk.i64_in _ (by omega)
            cases again with
            | true =>
              rw [if_pos ⟨rfl, rfl⟩] at hR
              have HR := Lib.hid hR
              clear hR
              go_wp2_with (go_at_call 39; (with_reducible refine (HTK.out _ _ H.out.swap).mono ?_); rintro e w2 ⟨rfl, h⟩; replace H := Lib.hid h; clear h)
              have hR := HR.out
              subst hR
              go_ret2
              exact .inr ⟨show (13 : Int) ≠ 0 by decide, rfl, H.out.swap.drop⟩
            | false =>
              rw [if_neg (by simp), if_pos rfl] at hR
              by_cases c6 : 255 ≤ s
              · rw [if_pos c6] at hR
                obtain rfl : s = 255 := by omega
                have HR := Lib.hid hR
                clear hR
                go_wp2_with (go_at_call 39; (with_reducible refine (HTK.out _ _ H.out.swap).mono ?_); rintro e w2 ⟨rfl, h⟩; obtain ⟨hc, hf⟩ := rowO_cell h.swap 255 (by omega) HQL.out; replace H := Lib.hid (rowO_store h.swap 255 0); clear h)
                have hR := HR.out
                subst hR
                go_ret2
                exact .inr ⟨show (13 : Int) ≠ 0 by decide, rfl, H.out.drop⟩
              · rw [if_neg c6] at hR
                obtain ⟨n, f, t2, hr⟩ : ∃ n f t2, takeR l (254 - (s : Int)) t1 = (n, f, t2) := ⟨_, _, _, rfl⟩
                rw [hr] at hR
                simp only [] at hR
                have HTR := Lib.hid (fun W os (h : Hold w0 W (qrO g (bitsOf l) t1 :: os)) => hTake_qru h HLE.out (by omega) hr)
                have HL2 := Lib.hid (takeR_le hr HLE.out)
                have z8 : decide (255 < (s : Int) + 1) = false := decide_eq_false (by omega)
                have z9 : IntKind.i64.wrap (255 - ((s : Int) + 1)) = 254 - (s : Int) := by rw [IntWalk.i64_in _ (by omega)]; omega
                by_cases c7 : f ≠ 0
                · rw [if_pos c7] at hR
                  have HR := Lib.hid hR
                  have C7 := Lib.hid c7
                  have zc : (f != 0) = true := by rw [bne_iff_ne]; exact c7
                  have zd : (f == 0) = false := by rw [beq_eq_false_iff_ne]; exact c7
                  clear hR hr c7
                  go_wp2_with (first
                    | (go_at_call 39; (with_reducible refine (HTK.out _ _ H.out.swap).mono ?_); rintro e w2 ⟨rfl, h⟩; obtain ⟨hc, hf⟩ := rowO_cell h.swap s (by omega) HQL.out; replace H := Lib.hid (rowO_store h.swap s 0); clear h)
                    | (go_at_call 40; (with_reducible refine (HTR.out _ _ H.out.swap).mono ?_); rintro e w2 ⟨rfl, h⟩; replace H := Lib.hid h; clear h))
                  have hR := HR.out
                  subst hR
                  go_ret2
                  exact .inr ⟨C7.out, rfl, H.out.swap.drop⟩
                · rw [if_neg c7] at hR
                  obtain rfl : f = 0 := Decidable.byContradiction c7
                  obtain ⟨n0, n1⟩ := takeR_bd hr
                  obtain ⟨N, rfl⟩ : ∃ N : Nat, n = (N : Int) := ⟨n.toNat, by omega⟩
                  rw [Int.toNat_natCast] at hR
                  have HR := Lib.hid hR
                  clear hR hr c7
                  go_wp2_with (first
                    | (go_at_call 39; (with_reducible refine (HTK.out _ _ H.out.swap).mono ?_); rintro e w2 ⟨rfl, h⟩; obtain ⟨hc, hf⟩ := rowO_cell h.swap s (by omega) HQL.out; replace H := Lib.hid (rowO_store h.swap s 0); clear h)
                    | (go_at_call 40; (with_reducible refine (HTR.out _ _ H.out.swap).mono ?_); rintro e w2 ⟨rfl, h⟩; replace H := Lib.hid h.swap; clear h))
                  go_roundg (256 - (s + N + 1))
                  case measure => have := HK.out; omega
                  case rel => exact ⟨_, s + N + 1, t2, Lf, true, rfl, rfl, by first | go_num | (congr 1; omega), rfl, by omega, by omega, by omega, HL2.out, HQ2, HR, H⟩
          · have hA : ¬ (again = true ∧ v = 0) := fun h => cv h.2
            rw [if_neg hA, if_neg cv] at hR
            have zv : (v == 0) = false := by rw [beq_eq_false_iff_ne]; exact cv
            have HR := Lib.hid hR
            clear hR hA cv
            cases again
            all_goals
              go_wp2_with (go_at_call 39; (with_reducible refine (HTK.out _ _ H.out.swap).mono ?_); rintro e w2 ⟨rfl, h⟩; obtain ⟨hc, hf⟩ := rowO_cell h.swap s (by omega) HQL.out; replace H := Lib.hid (rowO_store h.swap s v); clear h)
              go_roundg (256 - (s + 1))
              case measure => have := HK.out; omega
              case rel => exact ⟨_, s + 1, t1, Lf - v, false, rfl, rfl, by go_num, rfl, by omega, by omega, by omega, HLE.out, HQ2, HR, H⟩
theorem rtake_no {w0 W : World} {os : List Ob} (g : Nat) (log : Int) (h : log < 1 ∨ 12 < log) (H : Hold w0 W os) :
    Calls Try.prog 20 #[.pointer (some ⟨g, 0, none⟩), .int .i64 log] W fun e w' => e = .returned (.tuple #[.slice none 0 0, .int .i64 1]) ∧ Hold w0 w' os := by
  have H := Lib.hid H
  rcases h with h | h
  · have z1 : decide (log < 1) = true := decide_eq_true h
    go_enter Try.func20, Try.ntmps20
    go_wp2
    go_ret2
    exact ⟨rfl, H.out⟩
  · have z1 : decide (log < 1) = false := decide_eq_false (by omega)
    have z2 : decide (12 < log) = true := decide_eq_true h
    go_enter Try.func20, Try.ntmps20
    go_wp2
    go_ret2
    exact ⟨rfl, H.out⟩
end Go.Proofs.Ytmmfkmkhflieeaa
