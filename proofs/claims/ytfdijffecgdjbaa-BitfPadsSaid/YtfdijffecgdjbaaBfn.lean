/- The statements of the layer bitf: BitfPads. -/
import Derived.Test.YtfdijffecgdjbaaBfm
import Derived.Deep.RegionHeld3
namespace Go.Proofs.Ytfdijffecgdjbaa
open Go.RowKit Go.Proofs.YtfdijffecgdjbaaW.PrintWords Go.Proofs.YtfdijffecgdjbaaW.PrintLast Go.Proofs.YtfdijffecgdjbaaW.PrintMore
attribute [local go_sem] max2_int min2_int max_two min_two max_three min_three max_four min_four
set_option linter.unusedSimpArgs false
set_option linter.unusedVariables false
theorem slice_lo (A : Option Addr) (n c k : Nat) (hk : k ≤ n) (hc : n ≤ c) (W : World) :
    Sem.run Try.prog (Instr.slice 22 (.slice A n c) (some (.int .i64 (k : Int))) none none) W = .ok (.slice (if c = k then A else A.map (·.add k)) (n - k) (c - k)) W := by
  have h1 : (k : Int) ≤ (n : Int) := by omega
  have h2 : (n : Int) ≤ (c : Int) := by omega
  have h3 : 0 ≤ (k : Int) := by omega
  simp [go_sem, Instr.slice, h1, h2, h3, hk, hc]
set_option maxHeartbeats 4000000 in
theorem pads_walk (a : Option Addr) (len cap : Nat) (zs : List Int) (n : Int) (w : World) (h : IsRow .u8 w a len cap zs) (y : len * 1 ≤ 140737488351232) (hv2 : (Lit.int .u8 n).wf = true) :
    Calls Try.prog 5 #[.slice a len cap, .int .u8 n] w fun e w' => e = .returned (.bool true) ∧ Below w.heap.size w w' := by
  obtain ⟨l, rfl, hr, hcap, hwf⟩ := h.reads (by omega)
  have R0 := Lib.hid hr
  have RI := Lib.hid hr
  have BL := Lib.hid (show ∀ x, x ∈ l → 0 ≤ x ∧ x ≤ 255 from wf_u8 hwf)
  have NL := Lib.hid h.nil
  have HB := Lib.hid (Below.refl w.heap.size w)
  have v2 := bounds_u8 hv2
  obtain ⟨N0, rfl⟩ : ∃ V : Nat, n = V := ⟨n.toNat, by omega⟩
  clear h hr hwf y hv2
  have S1 := Lib.hid trivial
  by_cases hs : l.length ≤ 200
  · go_enter Try.func5, Try.ntmps5
    go_wp2_with (first 
      | (go_at_call 7; (with_reducible refine (awake03 _).mono ?_); rintro e w1 ⟨rfl, hb⟩; replace R0 := Lib.hid (R0.out.below hb); replace HB := Lib.hid (below_then' HB.out hb); clear hb)
      | (go_at_call 8; clear S1; (with_reducible refine (bnew_any _ _ l _ _ rfl R0.out (by omega) NL.out).mono ?_); rintro e w1 ⟨g, rfl, hg, hI, hb⟩; have HI := Lib.hid hI; have G0 := Lib.hid (Nat.le_trans HB.out.size hg); replace HB := Lib.hid (below_then' HB.out hb); clear hI hg hb R0))
    obtain ⟨K, eK⟩ : ∃ K : Nat, (N0 : Int) % 25 = K := ⟨N0 % 25, by omega⟩
    rw [eK]
    have hK : K ≤ 24 := by omega
    clear eK v2
    by_cases hk : K ≤ 8 * l.length
    · obtain ⟨q, hq⟩ : ∃ q, (K + 7) / 8 = q := ⟨_, rfl⟩
      have HK0 := Lib.hid (show 0 + K ≤ 8 * l.length by omega)
      have HK1 := Lib.hid hK
      have HK := Lib.hid hk
      have EQ := Lib.hid (show 8 * ((K + 7) / 8) = 8 * q by rw [hq])
      have EQ2 := Lib.hid (show (8 * q + 7) / 8 = q by omega)
      have EQ3 := Lib.hid hq
      have hq2 : q ≤ l.length := by omega
      have HQ := Lib.hid (show 8 * q ≤ 8 * l.length by omega)
      have EL := Lib.hid (show 8 * (l.length : Int) - ((8 * q : Nat) : Int) = 8 * ((l.length : Int) - (q : Int)) by omega)
      have hsl := slice_lo a l.length cap q hq2 hcap
      have eq7 : ((K : Int) + 7) / 8 = (q : Int) := by omega
      have HD := Lib.hid (RI.out.drop_ q hq2 hcap)
      generalize (if cap = q then a else a.map (·.add q)) = B at hsl HD
      have q1 : (q : Int) ≤ (l.length : Int) := by omega
      have W1 : IntKind.i64.wrap ((l.length : Int) - (q : Int)) = (l.length : Int) - (q : Int) := IntWalk.i64_in _ (by omega)
      have W2 : IntKind.i64.wrap (8 * ((l.length : Int) - (q : Int))) = 8 * ((l.length : Int) - (q : Int)) := IntWalk.i64_in _ (by omega)
      by_cases h8 : K % 8 = 0
      · have HP := Lib.hid (show padOk l K = true by unfold padOk; simp [h8])
        have e8 : ((K : Int) % 8 != 0) = false := by simp; omega
        clear hq h8
        go_wp2_with (first
          | (go_at_call 12; (with_reducible refine (btake_ok g l 0 K _ HI.out HK0.out HK1.out (by omega) BL.out).mono ?_); rintro e w1 ⟨rfl, hI, hG⟩; rw [Nat.zero_add] at hI; replace HB := Lib.hid (below_grown' HB.out hG HB.out.size G0.out); replace HI := Lib.hid hI; clear hI hG)
          | (go_at_call 14; (with_reducible refine (bleft_at g l K _ HI.out HK.out (by omega)).mono ?_); rintro e w1 ⟨rfl, hI, hG⟩; replace HB := Lib.hid (below_grown' HB.out hG HB.out.size G0.out); replace HI := Lib.hid hI; clear hI hG)
          | (go_at_call 10; (with_reducible refine (bpad_yes g l K _ HI.out HK.out (by omega) HP.out).mono ?_); rintro e w1 ⟨rfl, hI, hG⟩; rw [EQ.out] at hI; replace HB := Lib.hid (below_grown' HB.out hG HB.out.size G0.out); replace HI := Lib.hid hI; clear hI hG))
        first | (go_region_held3 (fun _ => True) (exact trivial) (first
          | (go_at_call 17; (with_reducible refine (brest_any g l (8 * q) _ (HI.out.below ((Below.refl _ _).drew)) HQ.out (by omega)).mono ?_); rintro e w1 ⟨v, rfl, ho, hb⟩; rw [EQ2.out] at ho; obtain ⟨A1, c1, rfl, _, hr⟩ := own_reads' ho; have P1 := Lib.hid hr; replace HB := Lib.hid (below_then' (below_then' HB.out ((Below.refl _ _).drew)) hb); replace HI := Lib.hid ((HI.out.below ((Below.refl _ _).drew)).below hb); clear ho hr hb)
          | (go_at_call 14; (with_reducible refine (bleft_at g l (8 * q) _ HI.out HQ.out (by omega)).mono ?_); rintro e w1 ⟨rfl, hI, hG⟩; replace HB := Lib.hid (below_grown' HB.out hG HB.out.size G0.out); rw [EL.out]; clear hI hG)
          | (go_at_call 16; (with_reducible refine (same_any _ _ _ _ _ _ _ _ _ P1.out (HD.out.below HB.out) (drop_ok BL.out _) (drop_ok BL.out _)).mono ?_); rintro e w1 ⟨rfl, rfl⟩; rw [eqB_self]; clear P1))) | fail
        all_goals go_wp2
        all_goals go_ret
        all_goals exact ⟨rfl, HB.out⟩
      · have e8 : ((K : Int) % 8 != 0) = true := by simp; omega
        obtain ⟨s, hs8⟩ : ∃ s, K % 8 = s := ⟨_, rfl⟩
        obtain ⟨p, hp8⟩ : ∃ p, K / 8 = p := ⟨_, rfl⟩
        have is8 : (K : Int) % 8 = (s : Int) := by omega
        have ip8 : (K : Int) / 8 = (p : Int) := by omega
        have hpl : p < l.length := by omega
        have hs0 : ¬ s = 0 := by omega
        have ipl : (p : Int) < (l.length : Int) := by omega
        have hX := ok_getD BL.out p
        obtain ⟨ad, hA, _⟩ := reads_cell RI.out p hpl
        subst hA
        have HCL := Lib.hid (fun wr hb => reads_some RI.out p hpl wr hb)
        rcases hpd : padOk l K
        all_goals
          have HP := Lib.hid hpd
          simp only [padOk, hs8, hs0, decide_false, Bool.false_or, hp8, decide_eq_true_eq, decide_eq_false_iff_not] at hpd
          have h2s : (2 : Int) ^ s = pw s := pow_pw s
          have hz0 : 0 ≤ l.getD p 0 / 2 ^ s := Int.ediv_nonneg hX.1 (by rw [h2s]; have := pw_pos s; omega)
          have hz1 : l.getD p 0 / 2 ^ s ≤ 255 := Int.le_trans (Int.ediv_le_self _ hX.1) hX.2
          generalize l.getD p 0 = X at HCL hpd hX hz0 hz1
          clear hq h8 hs8 hp8 h2s
        · have ez : (X / 2 ^ s == 0) = false := by rw [beq_eq_false_iff_ne]; exact hpd
          clear hpd
          go_wp2_with (first
          | (go_at_call 12; (with_reducible refine (btake_ok g l 0 K _ HI.out HK0.out HK1.out (by omega) BL.out).mono ?_); rintro e w1 ⟨rfl, hI, hG⟩; rw [Nat.zero_add] at hI; replace HB := Lib.hid (below_grown' HB.out hG HB.out.size G0.out); replace HI := Lib.hid hI; clear hI hG; have hcell := HCL.out _ HB.out)
          | (go_at_call 14; (with_reducible refine (bleft_at g l K _ HI.out HK.out (by omega)).mono ?_); rintro e w1 ⟨rfl, hI, hG⟩; replace HB := Lib.hid (below_grown' HB.out hG HB.out.size G0.out); replace HI := Lib.hid hI; clear hI hG)
          | (go_at_call 10; (with_reducible refine (bpad_no g l K _ HI.out HK.out (by omega) HP.out).mono ?_); rintro e w1 ⟨rfl, hI, hG⟩; replace HB := Lib.hid (below_grown' HB.out hG HB.out.size G0.out); replace HI := Lib.hid hI; clear hI hG))
          refine wp_region_held_drew (S := fun _ => True) (by kernel_rfl) trivial (fun hHeld => ?_)
          refine wpAnyH_take (i := 0) (oi := ⟨_, _, _, _, _, _⟩) (v := ?_) rfl (by kernel_rfl) (by kernel_rfl) (by kernel_rfl) (fun _ _ _ h => h) (Or.inl ⟨by rfl, ?_⟩) (by assumption) ?_
          rotate_left
          · (intro w hSw; go_simp; try with_reducible rfl)
          try simp only [Act.put, List.setIfInBounds_toArray, List.set_cons_zero, List.set_cons_succ]
          refine wpAnyH_take (i := 1) (oi := ⟨_, _, _, _, _, _⟩) (v := ?_) rfl (by kernel_rfl) (by kernel_rfl) (by kernel_rfl) (fun _ _ _ h => h) (Or.inl ⟨by rfl, ?_⟩) (by assumption) ?_
          rotate_left
          · (intro w hSw; go_simp; try with_reducible rfl)
          try simp only [Act.put, List.setIfInBounds_toArray, List.set_cons_zero, List.set_cons_succ]
          refine wpAnyH_take (i := 2) (oi := ⟨_, _, _, _, _, _⟩) (v := ?_) rfl (by kernel_rfl) (by kernel_rfl) (by kernel_rfl) (fun _ _ _ h => h) (Or.inl ⟨by rfl, ?_⟩) (by assumption) ?_
          rotate_left
          · (intro w hSw; go_simp; try with_reducible rfl)
          try simp only [Act.put, List.setIfInBounds_toArray, List.set_cons_zero, List.set_cons_succ]
          refine wpAnyH_take (i := 4) (oi := ⟨_, _, _, _, _, _⟩) (v := ?_) rfl (by kernel_rfl) (by kernel_rfl) (by kernel_rfl) (fun _ _ _ h => h) (Or.inl ⟨by rfl, ?_⟩) (by assumption) ?_
          rotate_left
          · (intro w hSw; go_simp; try with_reducible rfl)
          try simp only [Act.put, List.setIfInBounds_toArray, List.set_cons_zero, List.set_cons_succ]
          refine wpAnyH_take (i := 5) (oi := ⟨_, _, _, _, _, _⟩) (v := ?_) rfl (by kernel_rfl) (by kernel_rfl) (by kernel_rfl) (fun _ _ _ h => h) (Or.inl ⟨by rfl, ?_⟩) (by assumption) ?_
          rotate_left
          · (intro w hSw; go_simp; try with_reducible rfl)
          try simp only [Act.put, List.setIfInBounds_toArray, List.set_cons_zero, List.set_cons_succ]
          refine wpAnyH_take (i := 6) (oi := ⟨_, _, _, _, _, _⟩) (v := ?_) rfl (by kernel_rfl) (by kernel_rfl) (by kernel_rfl) (fun _ _ _ h => h) (Or.inl ⟨by rfl, ?_⟩) (by assumption) ?_
          rotate_left
          · (intro w hSw; go_simp; try with_reducible rfl)
          try simp only [Act.put, List.setIfInBounds_toArray, List.set_cons_zero, List.set_cons_succ]
          refine wpAnyH_ready (rs := [3]) (by kernel_rfl) (by simp) ?_
          refine AllReadyH.cons (o := ⟨_, _, _, _, _, _⟩) rfl (fun KK hKK => ?_) AllReadyH.nil
          go_simp
          (go_at_call 17; (with_reducible refine (brest_any g l K _ (HI.out.below ((Below.refl _ _).drew)) HK.out (by omega)).mono ?_); rintro e w1 ⟨v, rfl, ho, hb⟩; rw [EQ3.out] at ho; obtain ⟨A1, c1, rfl, _, hr⟩ := own_reads' ho; have P1 := Lib.hid hr; replace HB := Lib.hid (below_then' (below_then' HB.out ((Below.refl _ _).drew)) hb); replace HI := Lib.hid ((HI.out.below ((Below.refl _ _).drew)).below hb); clear ho hr hb)
          go_wp2_with fail
          refine hKK.out _ _ trivial (fun hHeld => ?_)
          clear hKK KK
          try simp only [Act.put, List.setIfInBounds_toArray, List.set_cons_zero, List.set_cons_succ]
          refine wpAnyH_ready (rs := [7]) (by kernel_rfl) (by simp) ?_
          refine AllReadyH.cons (o := ⟨_, _, _, _, _, _⟩) rfl (fun KK hKK => ?_) AllReadyH.nil
          go_simp
          (go_at_call 16; (with_reducible refine (same_any _ _ _ _ _ _ _ _ _ P1.out (HD.out.below HB.out) (drop_ok BL.out _) (drop_ok BL.out _)).mono ?_); rintro e w1 ⟨rfl, rfl⟩; rw [eqB_self]; clear P1)
          go_wp2_with fail
          refine hKK.out _ _ trivial (fun hHeld => ?_)
          clear hKK KK
          try simp only [Act.put, List.setIfInBounds_toArray, List.set_cons_zero, List.set_cons_succ]
          refine wpAnyH_take (i := 8) (oi := ⟨_, _, _, _, _, _⟩) (v := ?_) rfl (by kernel_rfl) (by kernel_rfl) (by kernel_rfl) (fun _ _ _ h => h) (Or.inl ⟨by rfl, ?_⟩) (by assumption) ?_
          rotate_left
          · (intro w hSw; go_simp; try with_reducible rfl)
          try simp only [Act.put, List.setIfInBounds_toArray, List.set_cons_zero, List.set_cons_succ]
          refine wpAnyH_take (i := 9) (oi := ⟨_, _, _, _, _, _⟩) (v := ?_) rfl (by kernel_rfl) (by kernel_rfl) (by kernel_rfl) (fun _ _ _ h => h) (Or.inl ⟨by rfl, ?_⟩) (by assumption) ?_
          rotate_left
          · (intro w hSw; go_simp; try with_reducible rfl)
          try simp only [Act.put, List.setIfInBounds_toArray, List.set_cons_zero, List.set_cons_succ]
          refine wpAnyH_take (i := 10) (oi := ⟨_, _, _, _, _, _⟩) (v := ?_) rfl (by kernel_rfl) (by kernel_rfl) (by kernel_rfl) (fun _ _ _ h => h) (Or.inl ⟨by rfl, ?_⟩) (by assumption) ?_
          rotate_left
          · (intro w hSw; go_simp; try with_reducible rfl)
          try simp only [Act.put, List.setIfInBounds_toArray, List.set_cons_zero, List.set_cons_succ]
          refine wpAnyH_take (i := 11) (oi := ⟨_, _, _, _, _, _⟩) (v := ?_) rfl (by kernel_rfl) (by kernel_rfl) (by kernel_rfl) (fun _ _ _ h => h) (Or.inl ⟨by rfl, ?_⟩) (by assumption) ?_
          rotate_left
          · (intro w hSw; go_simp; try with_reducible rfl)
          try simp only [Act.put, List.setIfInBounds_toArray, List.set_cons_zero, List.set_cons_succ]
          refine wpAnyH_take (i := 12) (oi := ⟨_, _, _, _, _, _⟩) (v := ?_) rfl (by kernel_rfl) (by kernel_rfl) (by kernel_rfl) (fun _ _ _ h => h) (Or.inl ⟨by rfl, ?_⟩) (by assumption) ?_
          rotate_left
          · (intro w hSw; go_simp; try with_reducible rfl)
          try simp only [Act.put, List.setIfInBounds_toArray, List.set_cons_zero, List.set_cons_succ]
          refine wpAnyH_take (i := 13) (oi := ⟨_, _, _, _, _, _⟩) (v := undef) rfl (by kernel_rfl) (by kernel_rfl) (by kernel_rfl) (fun _ _ _ h => h) (Or.inr ⟨by kernel_rfl, rfl⟩) (by assumption) ?_
          try simp only [Act.put, List.setIfInBounds_toArray, List.set_cons_zero, List.set_cons_succ]
          refine wpAnyH_take (i := 14) (oi := ⟨_, _, _, _, _, _⟩) (v := undef) rfl (by kernel_rfl) (by kernel_rfl) (by kernel_rfl) (fun _ _ _ h => h) (Or.inr ⟨by kernel_rfl, rfl⟩) (by assumption) ?_
          try simp only [Act.put, List.setIfInBounds_toArray, List.set_cons_zero, List.set_cons_succ]
          refine wpAnyH_take (i := 15) (oi := ⟨_, _, _, _, _, _⟩) (v := undef) rfl (by kernel_rfl) (by kernel_rfl) (by kernel_rfl) (fun _ _ _ h => h) (Or.inr ⟨by kernel_rfl, rfl⟩) (by assumption) ?_
          try simp only [Act.put, List.setIfInBounds_toArray, List.set_cons_zero, List.set_cons_succ]
          refine wpAnyH_take (i := 16) (oi := ⟨_, _, _, _, _, _⟩) (v := undef) rfl (by kernel_rfl) (by kernel_rfl) (by kernel_rfl) (fun _ _ _ h => h) (Or.inr ⟨by kernel_rfl, rfl⟩) (by assumption) ?_
          try simp only [Act.put, List.setIfInBounds_toArray, List.set_cons_zero, List.set_cons_succ]
          refine wpAnyH_take (i := 17) (oi := ⟨_, _, _, _, _, _⟩) (v := undef) rfl (by kernel_rfl) (by kernel_rfl) (by kernel_rfl) (fun _ _ _ h => h) (Or.inr ⟨by kernel_rfl, rfl⟩) (by assumption) ?_
          try simp only [Act.put, List.setIfInBounds_toArray, List.set_cons_zero, List.set_cons_succ]
          refine wpAnyH_take (i := 18) (oi := ⟨_, _, _, _, _, _⟩) (v := undef) rfl (by kernel_rfl) (by kernel_rfl) (by kernel_rfl) (fun _ _ _ h => h) (Or.inr ⟨by kernel_rfl, rfl⟩) (by assumption) ?_
          try simp only [Act.put, List.setIfInBounds_toArray, List.set_cons_zero, List.set_cons_succ]
          refine wpAnyH_take (i := 19) (oi := ⟨_, _, _, _, _, _⟩) (v := undef) rfl (by kernel_rfl) (by kernel_rfl) (by kernel_rfl) (fun _ _ _ h => h) (Or.inr ⟨by kernel_rfl, rfl⟩) (by assumption) ?_
          try simp only [Act.put, List.setIfInBounds_toArray, List.set_cons_zero, List.set_cons_succ]
          refine wpAnyH_take (i := 20) (oi := ⟨_, _, _, _, _, _⟩) (v := undef) rfl (by kernel_rfl) (by kernel_rfl) (by kernel_rfl) (fun _ _ _ h => h) (Or.inr ⟨by kernel_rfl, rfl⟩) (by assumption) ?_
          try simp only [Act.put, List.setIfInBounds_toArray, List.set_cons_zero, List.set_cons_succ]
          refine wpAnyH_take (i := 21) (oi := ⟨_, _, _, _, _, _⟩) (v := ?_) rfl (by kernel_rfl) (by kernel_rfl) (by kernel_rfl) (fun _ _ _ h => h) (Or.inl ⟨by rfl, ?_⟩) (by assumption) ?_
          rotate_left
          · (intro w hSw; go_simp; try with_reducible rfl)
          try simp only [Act.put, List.setIfInBounds_toArray, List.set_cons_zero, List.set_cons_succ]
          refine wpAnyH_take (i := 22) (oi := ⟨_, _, _, _, _, _⟩) (v := ?_) rfl (by kernel_rfl) (by kernel_rfl) (by kernel_rfl) (fun _ _ _ h => h) (Or.inl ⟨by rfl, ?_⟩) (by assumption) ?_
          rotate_left
          · (intro w hSw; go_simp; try with_reducible rfl)
          try simp only [Act.put, List.setIfInBounds_toArray, List.set_cons_zero, List.set_cons_succ]
          refine wpAnyH_take (i := 23) (oi := ⟨_, _, _, _, _, _⟩) (v := ?_) rfl (by kernel_rfl) (by kernel_rfl) (by kernel_rfl) (fun _ _ _ h => h) (Or.inl ⟨by rfl, ?_⟩) (by assumption) ?_
          rotate_left
          · (intro w hSw; go_simp; try with_reducible rfl)
          try simp only [Act.put, List.setIfInBounds_toArray, List.set_cons_zero, List.set_cons_succ]
          refine wpAnyH_done (by kernel_rfl) ?_ _
          all_goals go_wp2
          all_goals go_ret
          all_goals exact ⟨rfl, HB.out⟩
        · have ez : (X / 2 ^ s == 0) = true := by rw [beq_iff_eq]; exact hpd
          clear hpd
          go_wp2_with (first
          | (go_at_call 12; (with_reducible refine (btake_ok g l 0 K _ HI.out HK0.out HK1.out (by omega) BL.out).mono ?_); rintro e w1 ⟨rfl, hI, hG⟩; rw [Nat.zero_add] at hI; replace HB := Lib.hid (below_grown' HB.out hG HB.out.size G0.out); replace HI := Lib.hid hI; clear hI hG; have hcell := HCL.out _ HB.out)
          | (go_at_call 14; (with_reducible refine (bleft_at g l K _ HI.out HK.out (by omega)).mono ?_); rintro e w1 ⟨rfl, hI, hG⟩; replace HB := Lib.hid (below_grown' HB.out hG HB.out.size G0.out); replace HI := Lib.hid hI; clear hI hG)
          | (go_at_call 10; (with_reducible refine (bpad_yes g l K _ HI.out HK.out (by omega) HP.out).mono ?_); rintro e w1 ⟨rfl, hI, hG⟩; rw [EQ.out] at hI; replace HB := Lib.hid (below_grown' HB.out hG HB.out.size G0.out); replace HI := Lib.hid hI; clear hI hG))
          first | (go_region_held3 (fun _ => True) (exact trivial) (first
          | (go_at_call 17; (with_reducible refine (brest_any g l (8 * q) _ (HI.out.below ((Below.refl _ _).drew)) HQ.out (by omega)).mono ?_); rintro e w1 ⟨v, rfl, ho, hb⟩; rw [EQ2.out] at ho; obtain ⟨A1, c1, rfl, _, hr⟩ := own_reads' ho; have P1 := Lib.hid hr; replace HB := Lib.hid (below_then' (below_then' HB.out ((Below.refl _ _).drew)) hb); replace HI := Lib.hid ((HI.out.below ((Below.refl _ _).drew)).below hb); clear ho hr hb)
          | (go_at_call 14; (with_reducible refine (bleft_at g l (8 * q) _ HI.out HQ.out (by omega)).mono ?_); rintro e w1 ⟨rfl, hI, hG⟩; replace HB := Lib.hid (below_grown' HB.out hG HB.out.size G0.out); rw [EL.out]; clear hI hG)
          | (go_at_call 16; (with_reducible refine (same_any _ _ _ _ _ _ _ _ _ P1.out (HD.out.below HB.out) (drop_ok BL.out _) (drop_ok BL.out _)).mono ?_); rintro e w1 ⟨rfl, rfl⟩; rw [eqB_self]; clear P1))) | fail
          all_goals go_wp2
          all_goals go_ret
          all_goals exact ⟨rfl, HB.out⟩
    · have HN := Lib.hid (show (K : Int) < 0 ∨ (0 ≤ (K : Int) ∧ (24 < (K : Int) ∨ ((K : Int) ≤ 24 ∧ 8 * (l.length : Int) - (0 : Nat) < (K : Int)))) by omega)
      have i1 : (l.length : Int) * 8 < (K : Int) := by omega
      go_wp2_with (first
        | (go_at_call 12; (with_reducible refine (btake_no g l 0 (K : Int) _ HI.out (Nat.zero_le _) (by omega) HN.out).mono ?_); rintro e w1 ⟨rfl, hI, hG⟩; replace HB := Lib.hid (below_grown' HB.out hG HB.out.size G0.out); clear hI hG))
      go_ret
      exact ⟨rfl, HB.out⟩
  · go_enter Try.func5, Try.ntmps5
    go_wp2_with (first
      | (go_at_call 7; (with_reducible refine (awake03 _).mono ?_); rintro e w1 ⟨rfl, hb⟩; replace HB := Lib.hid (below_then' HB.out hb); clear hb))
    go_ret
    exact ⟨rfl, HB.out⟩
end Go.Proofs.Ytfdijffecgdjbaa
