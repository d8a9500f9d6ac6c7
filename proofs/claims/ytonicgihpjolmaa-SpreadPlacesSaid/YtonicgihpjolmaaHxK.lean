/- Contracts of container/heap over a variable that holds a row: Init, Pop, Push. -/
import Derived.Test.YtonicgihpjolmaaHwK
import Derived.Deep.RegionLaw
namespace Go.Proofs.Ytonicgihpjolmaa
open Go.RowKit Go.Proofs.YtonicgihpjolmaaW.PrintWords Go.Proofs.YtonicgihpjolmaaW.PrintLast Go.Proofs.YtonicgihpjolmaaW.PrintMore PPr
attribute [local go_sem] max2_int min2_int max_two min_two max_three min_three max_four min_four
set_option linter.unusedSimpArgs false
set_option linter.unusedVariables false
namespace HK
/-- an element as a value -/
def elV (x : S) : Value := .agg #[.int .i64 x.f0, .int .i64 x.f1, .int .i64 x.f2]
set_option maxHeartbeats 1000000 in
theorem popm_any {w0 w W : World} {Q : Nat → Prop} {p : Nat} {v : Value} {xs : List S} (h : IsH w0 w W Q p v xs) (hl : 0 < xs.length) (hm : xs.length ≤ 1152921504606846976) :
    Calls Try.prog 63 #[.pointer (some ⟨p, 0, none⟩)] W fun e W' => e = .returned (.iface 46 (elV (xs.getD (xs.length - 1) z))) ∧ ∃ v', IsH w0 w W' Q p v' (xs.take (xs.length - 1)) := by
  obtain ⟨g, cap, rfl, hg, hg2, cells, hgb⟩ := Kd.R_form h.R hl
  obtain ⟨c, hcl, hM, hcc, hfr⟩ := Kd.R_elem h.R z ((xs.length - 1 : Nat) : Int) (by omega) (by omega)
  obtain rfl := k46_openM hM
  have hx0 : W.cell? ⟨g, (xs.length - 1) * 3, none⟩ = some (.int .i64 (xs.getD (xs.length - 1) z).f0) := hcc 0 _ rfl
  have hx1 : W.cell? ⟨g, (xs.length - 1) * 3 + 1, none⟩ = some (.int .i64 (xs.getD (xs.length - 1) z).f1) := hcc 1 _ rfl
  have hx2 : W.cell? ⟨g, (xs.length - 1) * 3 + 2, none⟩ = some (.int .i64 (xs.getD (xs.length - 1) z).f2) := hcc 2 _ rfl
  have hpf := blk_frozen h.B 0
  have hcell := h.cell
  have hplt : p < W.heap.size := blk_lt h.B
  have hne : g ≠ p := by
    rintro rfl
    have h1 := h.B
    rw [hgb] at h1
    injection h1 with h1
    injection h1 with _ h1
    exact absurd h1 (by decide)
  obtain ⟨N, hN⟩ : ∃ N, xs.length = N + 1 := ⟨xs.length - 1, by omega⟩
  obtain ⟨X, hX⟩ : ∃ X, xs.getD (xs.length - 1) z = X := ⟨_, rfl⟩
  have HX := Lib.hid hX
  have HN := Lib.hid hN
  have hcap : N + 1 ≤ cap := by have := (Kd.R_reads' h.R).2.1; omega
  rw [hX] at hx0 hx1 hx2
  rw [hN, Nat.add_sub_cancel] at hx0 hx1 hx2
  have H := Lib.hid h
  rw [hN] at hcell
  clear h hcl hM hcc hfr hX hN hl
  have hm : N ≤ 1152921504606846976 := by have := HN.out; omega
  rw [HN.out]
  go_enter Try.func63, Try.ntmps63
  go_wp2
  go_ret
  refine ⟨?_, _, ((H.out.put ?_).alloc _)⟩
  · rw [← HN.out, HX.out]; rfl
  · rw [Nat.add_sub_cancel]
    have h1 := H.out.R
    rw [HN.out] at h1
    exact Kd.R_take h1 (by rw [HN.out]; omega)
theorem down_0 {w0 w W : World} {Q : Nat → Prop} {p : Nat} {v : Value} {xs : List S} (h : IsH w0 w W Q p v xs) (n : Nat) (hn : n ≤ xs.length) (hm : xs.length ≤ 1152921504606846976) :
    Calls Try.prog 37 #[.iface 54 (.pointer (some ⟨p, 0, none⟩)), .int .i64 0, .int .i64 (n : Int)] W fun e W' => SomeBool e ∧ IsH w0 w W' Q p v (Hp.down z ltK xs.length xs 0 n) := down_any h 0 n hn hm (by omega)
set_option maxHeartbeats 1000000 in
theorem pop_any {w0 w W : World} {Q : Nat → Prop} {p : Nat} {v : Value} {xs : List S} (h : IsH w0 w W Q p v xs) (hl : 0 < xs.length) (hm : xs.length ≤ 1152921504606846976) :
    Calls Try.prog 29 #[.iface 54 (.pointer (some ⟨p, 0, none⟩))] W fun e W' => e = .returned (.iface 46 (elV ((Hp.pop z ltK xs).getD (xs.length - 1) z))) ∧ ∃ v', IsH w0 w W' Q p v' ((Hp.pop z ltK xs).take (xs.length - 1)) := by
  have HI := Lib.hid h
  have hn1 := nil_any "Len" rfl
  have hn2 := nil_any "Swap" rfl
  have hn3 := nil_any "Pop" rfl
  have hm1 := fun (n : Nat) (w : World) (h : w.cell? ⟨p, 0, none⟩ = some v) => m_len ⟨p, 0, none⟩ v n w h
  have hm2 := fun (n : Nat) (w : World) (h : w.cell? ⟨p, 0, none⟩ = some v) => m_swap ⟨p, 0, none⟩ v n w h
  have hm3 := fun (n : Nat) (w : World) => m_pop ⟨p, 0, none⟩ n w
  have hcell := h.cell
  clear h
  obtain ⟨N, hN⟩ : ∃ N, xs.length = N + 1 := ⟨xs.length - 1, by omega⟩
  have HN := Lib.hid hN
  have hm : N ≤ 1152921504606846976 := by omega
  have EN := Lib.hid (show ((xs.length : Int) - 1).toNat = N by omega)
  have hxl : xs.length ≤ N + 1 := by omega
  have hxl2 : N + 1 ≤ xs.length := by omega
  clear hN hl
  go_enter Try.func29, Try.ntmps29
  go_wp2_with (first
    | (go_at_call 28; go_must ((with_reducible refine (len_at HI.out).mono ?_); rintro e w1 ⟨rfl, rfl⟩; rw [HN.out]))
    | (go_at_call 58; go_must ((with_reducible refine (swap_at HI.out 0 (N : Int) (by omega) (by omega) (by omega) (by omega)).mono ?_); rintro e w1 ⟨rfl, hI⟩; replace hI : IsH w0 w w1 Q p v (Hp.swap z xs 0 N) := hI; clear hcell; have hcell := hI.cell; replace HI := Lib.hid hI; clear hI))
    | (go_at_call 37; go_must ((with_reducible refine (down_0 HI.out N (by rw [Hp.swap_len]; omega) (by rw [Hp.swap_len]; omega)).mono ?_); rintro e w1 ⟨⟨b, rfl⟩, hI⟩; rw [Hp.swap_len] at hI; clear hcell; have hcell := hI.cell; replace HI := Lib.hid hI; clear hI))
    | (go_at_call 63; go_must ((with_reducible refine (popm_any HI.out (by rw [Hp.down_len, Hp.swap_len]; omega) (by rw [Hp.down_len, Hp.swap_len]; omega)).mono ?_); rintro e w1 ⟨rfl, v', hI⟩; rw [Hp.down_len, Hp.swap_len] at hI ⊢; replace HI := Lib.hid hI; clear hI)))
  go_ret
  have e : Hp.down z ltK xs.length (Hp.swap z xs 0 N) 0 N = Hp.pop z ltK xs := by unfold Hp.pop; rw [HN.out, Nat.add_sub_cancel]
  have h1 := HI.out
  rw [e] at h1 ⊢
  exact ⟨rfl, _, h1⟩
theorem IsH.grown {w0 w W W1 : World} {Q : Nat → Prop} {p : Nat} {v v1 : Value} {xs ys : List S} (h : IsH w0 w W Q p v xs) (hg : W.grownBy W1 v.ownBlock) (hR : Kd.R k46 46 W1 w0.heap.size (fun k => Q k ∨ w.heap.size ≤ k) v1 ys) (hZ : Below w0.heap.size w0 W1) : IsH w0 w (W1.setCell ⟨p, 0, none⟩ v1) Q p v1 ys := by
  have hne := Kd.R_ne h.R h.B (by decide)
  have hB : W1.heap[p]? = some (.cells #[v] 52 (0, 0)) := (hg.block p (blk_lt h.B) hne).trans h.B
  exact ⟨by simpa using blk_set hB 0 v1, h.P, h.P0, Kd.R_set hR hB (by intro q hq; simp [k46, Kd.iso, Kd.pair, Kd.int, Kd.scalar] at hq; omega) 0 v1, (Kept.of_grown hg h.K (fun k hk => h.R.1 k hk)).setCell h.P _, hZ.setCell h.P0 _⟩
theorem info_el : (Try.prog.info? 46).map (fun i => (i.zero, i.size, i.bytes)) = some (some (.agg #[.int .i64 0, .int .i64 0, .int .i64 0]), 3, 24) := by kernel_rfl
theorem assert_el (x : S) (W : World) : (Instr.typeAssert (.iface 46 (elV x)) 20 46 false).run Try.prog W = .ok (.agg #[.int .i64 x.f0, .int .i64 x.f1, .int .i64 x.f2]) W := by kernel_rfl
set_option maxHeartbeats 1000000 in
theorem pushm_any {w0 w W : World} {Q : Nat → Prop} {p : Nat} {v : Value} {xs : List S} (h : IsH w0 w W Q p v xs) (x : S) (hm : xs.length ≤ 1099511627776) :
    Calls Try.prog 64 #[.pointer (some ⟨p, 0, none⟩), .iface 46 (elV x)] W fun e W' => e = .returned (.tuple #[]) ∧ ∃ v', IsH w0 w W' Q p v' (xs ++ [x]) := by
  have H := Lib.hid h
  have hta := assert_el x
  have hcell := h.cell
  have hpf := blk_frozen h.B 0
  have hplt : p < W.heap.size := blk_lt h.B
  have ⟨A, c, hv, hc, hr⟩ := h.len
  subst hv
  clear h hc hr
  go_enter Try.func64, Try.ntmps64
  go_wp2_with fail
  have hne := Kd.R_ne H.out.R H.out.B (by decide)
  go_region_law
    ((refine Kd.R_append_step k46 (w0 := w0) (W := W.drew) w0.heap.size (by rfl) (.tmp 7) (.tmp 10) 52 46 (.agg #[.int .i64 0, .int .i64 0, .int .i64 0]) 24 (by rfl) Try.underlying52 info_el rfl (by decide) (by omega) (.slice A xs.length c) xs x [.int .i64 x.f0, .int .i64 x.f1, .int .i64 x.f2] (fun k => Q k ∨ w.heap.size ≤ k) (fun _ => False) (by rfl) (by rfl) (k46_mkM _ _ _ x) (fun _ hk => hk.elim) (fun k hk => .inr (Nat.le_trans H.out.K.1 hk)) (Kd.R_drew H.out.R) (below_drew H.out.Z) H.out.Z.size (by omega) ?_; intro v1 w1 hR1 hb1 hg1 hat1; obtain ⟨A1, c1, rfl⟩ := Kd.R_slice hR1; have hB1 : w1.heap[p]? = some (.cells #[.slice A xs.length c] 52 (0, 0)) := (hg1.block p hplt hne).trans H.out.B; have hc1 : w1.cell? ⟨p, 0, none⟩ = some (.slice A xs.length c) := (by simpa using blk_cell hB1 0); have hf1 := blk_frozen hB1 0; have HR1 := Lib.hid hR1; have HB1 := Lib.hid hb1; have HG1 := Lib.hid hg1; have HBB := Lib.hid hB1; clear hR1 hb1 hg1 hat1 hB1))
  all_goals go_end0
  all_goals exact ⟨rfl, _, (H.out.below (below_drew (Below.refl _ _))).grown HG1.out (by have hr := HR1.out; rw [List.length_append, List.length_singleton] at hr; exact hr) HB1.out⟩
theorem up_stop (lt : S → S → Bool) (k : Nat) (l : List S) (j : Nat) (h : (j - 1) / 2 = j) : Hp.up z lt k l j = l := by
  cases k with
  | zero => rfl
  | succ k => unfold Hp.up; rw [if_pos h]
theorem up_one (lt : S → S → Bool) (k : Nat) (l : List S) (j : Nat) (h : ¬ (j - 1) / 2 = j) : Hp.up z lt (k + 1) l j = if lt (l.getD j z) (l.getD ((j - 1) / 2) z) = true then Hp.up z lt k (Hp.swap z l ((j - 1) / 2) j) ((j - 1) / 2) else l := by
  rw [Hp.up, if_neg h]
set_option maxHeartbeats 2000000 in
theorem up_any {w0 w W : World} {Q : Nat → Prop} {p : Nat} {v : Value} {xs : List S} (h : IsH w0 w W Q p v xs) (j0 : Nat) (hj : j0 < xs.length) (hm : xs.length ≤ 1152921504606846976) (m0 : Nat) (hm0 : j0 < m0) :
    Calls Try.prog 36 #[.iface 54 (.pointer (some ⟨p, 0, none⟩)), .int .i64 (j0 : Int)] W fun e W' => e = .returned (.tuple #[]) ∧ IsH w0 w W' Q p v (Hp.up z ltK m0 xs j0) := by
  have H := Lib.hid h
  have hn1 := nil_any "Less" rfl
  have hn2 := nil_any "Swap" rfl
  have hm1 := fun (n : Nat) (w : World) (h : w.cell? ⟨p, 0, none⟩ = some v) => m_less ⟨p, 0, none⟩ v n w h
  have hm2 := fun (n : Nat) (w : World) (h : w.cell? ⟨p, 0, none⟩ = some v) => m_swap ⟨p, 0, none⟩ v n w h
  clear h
  go_enter Try.func36, Try.ntmps36
  go_wp2
  go_loopg [1] j0 (fun k q wr => ∃ (ys : List S) (j m : Nat), j ≤ k ∧ q = .int .i64 j ∧ Hid (ys.length = xs.length) ∧ j < xs.length ∧ j < m ∧ Hid (Hp.up z ltK m ys j = Hp.up z ltK m0 xs j0) ∧ IsH w0 w wr Q p v ys)
  case atStart => exact ⟨xs, j0, m0, Nat.le_refl _, rfl, Lib.hid rfl, hj, hm0, Lib.hid rfl, H.out⟩
  case round =>
    obtain ⟨ys, j, m, hk, rfl, hL, hjl, hjm, hD, hI⟩ := hrel
    have HK := Lib.hid hk
    have HI := Lib.hid hI
    have hcell := hI.cell
    clear H hk hI
    have hlen : ys.length ≤ xs.length := by rw [hL.out]; exact Nat.le_refl _
    have hlen2 : xs.length ≤ ys.length := by rw [hL.out]; exact Nat.le_refl _
    cases j with
    | zero =>
      go_wp2
      go_end0
      exact ⟨rfl, by rw [← hD.out, up_stop _ _ _ _ rfl]; exact HI.out⟩
    | succ j =>
      obtain ⟨m, rfl⟩ : ∃ m', m = m' + 1 := ⟨m - 1, by omega⟩
      obtain ⟨i, hi⟩ : ∃ i, j / 2 = i := ⟨_, rfl⟩
      have hil : i ≤ j := by omega
      have hii : (j : Int) / 2 = (i : Int) := by omega
      have hne1 : ((i : Int) == (j : Int) + 1) = false := beq_eq_false_iff_ne.2 (by omega)
      have HNE := Lib.hid (show ¬ (j + 1 - 1) / 2 = j + 1 by omega)
      have HE := Lib.hid (show (j + 1 - 1) / 2 = i by omega)
      have EJ := Lib.hid (show ((j : Int) + 1).toNat = j + 1 by omega)
      clear hi
      cases hl : ltK (ys.getD (j + 1) z) (ys.getD i z) with
      | true =>
        have HL1 := Lib.hid hl
        clear hl
        go_wp2_with (first
          | (go_at_call 57; go_must ((with_reducible refine (less_at HI.out ((j : Int) + 1) (i : Int) (by omega) (by omega) (by omega) (by omega)).mono ?_); rintro e w1 ⟨rfl, hI⟩; rw [EJ.out, Int.toNat_natCast, HL1.out]; clear hcell; have hcell := hI.cell; replace HI := Lib.hid hI; clear hI))
          | (go_at_call 58; go_must ((with_reducible refine (swap_at HI.out (i : Int) ((j : Int) + 1) (by omega) (by omega) (by omega) (by omega)).mono ?_); rintro e w1 ⟨rfl, hI⟩; rw [EJ.out, Int.toNat_natCast] at hI; clear hcell; have hcell := hI.cell; replace HI := Lib.hid hI; clear hI)))
        go_roundg i
        case measure => have := HK.out; omega
        case rel => exact ⟨_, i, m, Nat.le_refl _, rfl, Lib.hid (by rw [Hp.swap_len]; exact hL.out), by omega, by omega, Lib.hid (by rw [← hD.out, up_one _ _ _ _ HNE.out, HE.out, if_pos HL1.out]), HI.out⟩
      | false =>
        have HL1 := Lib.hid hl
        clear hl
        go_wp2_with (first
          | (go_at_call 57; go_must ((with_reducible refine (less_at HI.out ((j : Int) + 1) (i : Int) (by omega) (by omega) (by omega) (by omega)).mono ?_); rintro e w1 ⟨rfl, hI⟩; rw [EJ.out, Int.toNat_natCast, HL1.out]; clear hcell; have hcell := hI.cell; replace HI := Lib.hid hI; clear hI)))
        go_end0
        exact ⟨rfl, by rw [← hD.out, up_one _ _ _ _ HNE.out, HE.out, if_neg (by rw [HL1.out]; simp)]; exact HI.out⟩
set_option maxHeartbeats 1000000 in
theorem push_any {w0 w W : World} {Q : Nat → Prop} {p : Nat} {v : Value} {xs : List S} (h : IsH w0 w W Q p v xs) (x : S) (hm : xs.length ≤ 1099511627776) :
    Calls Try.prog 27 #[.iface 54 (.pointer (some ⟨p, 0, none⟩)), .iface 46 (elV x)] W fun e W' => e = .returned (.tuple #[]) ∧ ∃ v', IsH w0 w W' Q p v' (Hp.push z ltK xs x) := by
  have HI := Lib.hid h
  have hn1 := nil_any "Len" rfl
  have hn3 := nil_any "Push" rfl
  have hm1 := m_len ⟨p, 0, none⟩
  have hm3 := fun (n : Nat) (w : World) => m_push ⟨p, 0, none⟩ n w
  clear h
  obtain ⟨N, hN⟩ : ∃ N, xs.length = N := ⟨_, rfl⟩
  have HN := Lib.hid hN
  have HL := Lib.hid (show (xs ++ [x]).length = N + 1 by rw [List.length_append, List.length_singleton, hN])
  have hm' : N ≤ 1099511627776 := by omega
  clear hN hm
  go_enter Try.func27, Try.ntmps27
  go_wp2_with (first
    | (go_at_call 64; go_must ((with_reducible refine (pushm_any HI.out x (by rw [HN.out]; exact hm')).mono ?_); rintro e w1 ⟨rfl, v', hI⟩; have hcell := hI.cell; replace HI := Lib.hid hI; clear hI))
    | (go_at_call 28; go_must ((with_reducible refine (len_at HI.out).mono ?_); rintro e w1 ⟨rfl, rfl⟩; rw [HL.out]))
    | (go_at_call 36; go_must ((with_reducible refine (up_any HI.out N (by rw [HL.out]; omega) (by rw [HL.out]; omega) (N + 1) (by omega)).mono ?_); rintro e w1 ⟨rfl, hI⟩; replace HI := Lib.hid hI; clear hI)))
  go_end0
  have e : Hp.up z ltK (N + 1) (xs ++ [x]) N = Hp.push z ltK xs x := by unfold Hp.push; rw [HN.out]
  have h1 := HI.out
  rw [e] at h1
  exact ⟨rfl, _, h1⟩
end HK
end Go.Proofs.Ytonicgihpjolmaa
