/- What the printed functions of the layer norm's reference come to. -/
import Derived.Test.YtonicgihpjolmaaPnc
import Derived.Test.YtonicgihpjolmaaPPrx10
import Derived.Test.YtonicgihpjolmaaPPrx6
namespace Go.Proofs.Ytonicgihpjolmaa
open Go.RowKit Go.Proofs.YtonicgihpjolmaaW.PrintWords Go.Proofs.YtonicgihpjolmaaW.PrintMore PPr
set_option linter.unusedSimpArgs false
set_option linter.unusedVariables false
theorem power_from (a : Int) (h0 : 1 ≤ a) (h : a ≤ 12) : ∀ (d i : Nat), (i : Int) + d = a → Ev (fun k => puncheonref08_power.l0 k a (2 ^ i) (i : Int)) (2 ^ a.toNat)
  | 0, i, hd => by
    refine Ev.step (fun _ => by rw [puncheonref08_power.l0]) ?_
    refine ev_neg (by omega) (ev_eq (Ev.now _) ?_)
    rw [show a.toNat = i by omega]
  | d + 1, i, hd => by
    refine Ev.step (fun _ => by rw [puncheonref08_power.l0]) ?_
    refine ev_pos (by omega) ?_
    have hb := pow_bd (i + 1) (by omega) (by omega)
    rw [show ((i : Int) + 1).toNat = i + 1 by omega] at hb
    rw [wnext i (by omega), w64' (x := 2 * 2 ^ i) (y := 2 ^ (i + 1)) (by rw [Int.pow_succ, Int.mul_comm]) (by omega) (by omega)]
    exact power_from a h0 h d (i + 1) (by omega)
theorem power_ev (a : Int) (h0 : 1 ≤ a) (h : a ≤ 12) : Ev (fun k => puncheonref08_power.f k a) (2 ^ a.toNat) := by
  unfold puncheonref08_power.f
  exact power_from a h0 h a.toNat 0 (by omega)
theorem rlog_from (t : Int) : ∀ (d i : Nat), 1 ≤ i → i + d = 13 → Ev (fun k => puncheonref08_Log.l0 k t (i : Int)) (lg t d i).1
  | 0, i, _, hd => by
    refine Ev.step (fun _ => by rw [puncheonref08_Log.l0]) ?_
    exact ev_neg (by omega) (Ev.now _)
  | d + 1, i, h1, hd => by
    refine Ev.step (fun _ => by rw [puncheonref08_Log.l0]) ?_
    refine ev_pos (by omega) (Ev.bind (power_ev i (by omega) (by omega)) ?_)
    rw [Int.toNat_natCast, lg, wnext i (by omega)]
    by_cases h : t = 2 ^ i
    · rw [if_pos h]; exact ev_pos h (Ev.now _)
    · rw [if_neg h]; exact ev_neg h (rlog_from t d (i + 1) (by omega) (by omega))
theorem rlog_ev (c : List Int) (hm : c.length ≤ 4611686018427387000) : Ev (fun k => puncheonref08_Log.f k c) (lg (totZ c) 12 1).1 := by
  unfold puncheonref08_Log.f
  exact Ev.bind (rtotal_ev c hm) (rlog_from _ 12 1 (by omega) (by omega))
/-! the reference -/
theorem rsum_from (q : List Int) (hq : q.length = 256) (h : ∀ x, x ∈ q → 0 ≤ x) (hs : q.sum ≤ 4611686018427387) : ∀ (d i : Nat), i + d = 256 → Ev (fun k => puncheonref08_sum.l0 k q (q.take i).sum (i : Int)) q.sum
  | 0, i, hd => by
    refine Ev.step (fun _ => by rw [puncheonref08_sum.l0]) ?_
    refine ev_neg (by omega) ?_
    rw [List.take_of_length_le (by omega)]
    exact Ev.now _
  | d + 1, i, hd => by
    refine Ev.step (fun _ => by rw [puncheonref08_sum.l0]) ?_
    refine ev_pos (by omega) (ev_pos (by omega) ?_)
    have h1 := sum_take_le h (i + 1)
    have h2 := sum_nonneg (l := q.take (i + 1)) (fun x hx => h x (List.mem_of_mem_take hx))
    rw [rd_nat, wnext i (by omega), w64' (x := (q.take i).sum + q.getD i 0) (y := (q.take (i + 1)).sum) (by rw [take_snocE q i (by omega), List.sum_append]; simp) (by omega) (by omega)]
    exact rsum_from q hq h hs d (i + 1) (by omega)
theorem rsum_ev (q : List Int) (hq : q.length = 256) (h : ∀ s, s < 256 → 0 ≤ q.getD s 0) (hs : q.sum ≤ 4611686018427387) : Ev (fun k => puncheonref08_sum.f k q) q.sum := by
  unfold puncheonref08_sum.f
  exact rsum_from q hq (nn_mem hq h) hs 256 0 (by omega)
theorem rneed_from (rest : List Int) (had : List Bool) (hr : rest.length = 256) (hh : had.length = 256) : ∀ (d i : Nat), i + d = 256 → Ev (fun k => puncheonref08_neediest.l0 k rest had (needZ rest had i) (i : Int)) (needZ rest had 256)
  | 0, i, hd => by
    obtain rfl : i = 256 := by omega
    refine Ev.step (fun _ => by rw [puncheonref08_neediest.l0]) ?_
    exact ev_neg (by omega) (Ev.now _)
  | d + 1, i, hd => by
    have ih := rneed_from rest had hr hh d (i + 1) (by omega)
    rw [needZ] at ih
    have hz := needZ_is rest had i
    generalize needZ rest had i = z at ih hz ⊢
    refine Ev.step (fun _ => by rw [puncheonref08_neediest.l0]) ?_
    refine ev_pos (by omega) (ev_pos (by omega) (ev_pos (by omega) ?_))
    rw [wnext i (by omega)]
    have e1 : rdOf false had (i : Int) = had.getD i false := rfl
    rw [e1]
    by_cases c1 : had.getD i false = true
    · rw [if_pos c1] at ih; exact ev_pos c1 ih
    · rw [if_neg c1] at ih
      refine ev_neg c1 ?_
      by_cases c2 : z < 0
      · rw [if_pos c2] at ih; exact ev_pos c2 ih
      · rw [if_neg c2] at ih
        have hz2 : z < 256 := by
          rcases hz with ⟨h, _⟩ | ⟨s, h, h2⟩
          · omega
          · have := h2.1; omega
        refine ev_neg c2 (ev_pos (by omega) (ev_pos (by omega) (ev_pos (by omega) ?_)))
        rw [rd_nat, show rd rest z = rest.getD z.toNat 0 from rfl]
        by_cases c3 : rest.getD i 0 > rest.getD z.toNat 0
        · rw [if_pos c3] at ih; exact ev_pos c3 ih
        · rw [if_neg c3] at ih; exact ev_neg c3 ih
theorem rrich_from (q c : List Int) (hq : q.length = 256) (hc : c.length = 256) : ∀ (d i : Nat), 1 ≤ i → i + d = 256 → Ev (fun k => puncheonref08_richest.l0 k q c (richZ q c i : Int) (i : Int)) (richZ q c 256 : Int)
  | 0, i, _, hd => by
    obtain rfl : i = 256 := by omega
    refine Ev.step (fun _ => by rw [puncheonref08_richest.l0]) ?_
    exact ev_neg (by omega) (Ev.now _)
  | d + 1, i, h1, hd => by
    have ih := rrich_from q c hq hc d (i + 1) (by omega) (by omega)
    rw [richZ] at ih
    have hz : richZ q c i < i := by have := (richZ_is q c (i - 1)).1; rwa [show i - 1 + 1 = i by omega] at this
    generalize richZ q c i = z at ih hz ⊢
    refine Ev.step (fun _ => by rw [puncheonref08_richest.l0]) ?_
    refine ev_pos (by omega) (ev_pos (by omega) (ev_pos (by omega) (ev_pos (by omega) (ev_pos (by omega) ?_))))
    rw [wnext i (by omega), rd_nat, rd_nat, rd_nat, rd_nat]
    by_cases c1 : q.getD i 0 > q.getD z 0
    · rw [if_pos c1] at ih; exact ev_pos c1 ih
    · rw [if_neg c1] at ih
      refine ev_neg c1 ?_
      by_cases c2 : q.getD i 0 = q.getD z 0
      · refine ev_pos c2 (ev_pos (by omega) (ev_pos (by omega) ?_))
        by_cases c3 : c.getD i 0 ≤ c.getD z 0
        · rw [if_pos ⟨c2, c3⟩] at ih; exact ev_pos c3 ih
        · rw [if_neg (fun h => c3 h.2)] at ih; exact ev_neg c3 ih
      · rw [if_neg (fun h => c2 h.1)] at ih; exact ev_neg c2 ih
theorem rich_of {q c : List Int} {s : Nat} (h : Rich q c s) : richZ q c 256 = s := (rich_one h (richZ_is q c 255)).symm
theorem rtakes_from (c : List Int) (hc : c.length = 256) (L : Int) (hL : 0 ≤ L) : ∀ (n : Nat) (q q' : List Int), q.length = 256 → (∀ s, s < 256 → 0 ≤ q.getD s 0) → q.sum ≤ 4611686018427387 → n = (q.sum - L).toNat → Takes c n q q' → Ev (fun k => puncheonref08_Counts.l2 k c L q) (q', 0)
  | 0, q, q', hq, hb, hs, hn, hT => by
    cases hT
    refine Ev.step (fun _ => by rw [puncheonref08_Counts.l2]) ?_
    exact Ev.bind (rsum_ev q hq hb hs) (ev_neg (by omega) (Ev.now _))
  | n + 1, q, q', hq, hb, hs, hn, hT => by
    cases hT with
    | succ hR h2 hT =>
      rename_i s
      have hs1 := hR.1
      have hr : Ev (fun k => puncheonref08_richest.f k q c) (s : Int) := by
        unfold puncheonref08_richest.f
        have := rrich_from q c hq hc 255 1 (by omega) (by omega)
        rw [rich_of hR] at this
        rw [show (richZ q c 1 : Int) = 0 by have h0 : richZ q c 1 < 1 := (richZ_is q c 0).1; omega] at this
        exact this
      have hle : q.getD s 0 ≤ q.sum := by
        have h1 := sum_take_le (nn_mem hq hb) (s + 1)
        rw [take_snoc' q s (by omega), List.sum_append] at h1
        have h3 := sum_nonneg (l := q.take s) (fun x hx => nn_mem hq hb x (List.mem_of_mem_take hx))
        simp only [List.sum_cons, List.sum_nil] at h1
        omega
      have e1 := sum_set q s (q.getD s 0 - 1) (by omega)
      refine Ev.step (fun _ => by rw [puncheonref08_Counts.l2]) ?_
      refine Ev.bind (rsum_ev q hq hb hs) (ev_pos (by omega) (Ev.bind hr (ev_pos (by omega) (ev_pos (by omega) ?_))))
      rw [rd_nat, Int.toNat_natCast, wraps (by omega) (by omega)]
      refine rtakes_from c hc L hL n _ q' (by simpa using hq) (fun t ht => ?_) (by omega) (by omega) hT
      rw [getD_set _ _ _ _ (by omega)]
      have := hb t ht
      split <;> omega
theorem rgives_from (c : List Int) (L : Int) (rest : List Int) (hr : rest.length = 256) (r : List Int × Int) (hL : L ≤ 4611686018427) : ∀ (n : Nat) (q : List Int) (had : List Bool) (q' : List Int), q.length = 256 → had.length = 256 → (∀ s, s < 256 → 0 ≤ q.getD s 0) → q.sum ≤ 4611686018427387 → n = (L - q.sum).toNat → Gives rest n q had q' → Ev (fun k => puncheonref08_Counts.l2 k c L q') r → Ev (fun k => puncheonref08_Counts.l1 k c L q rest had) r
  | 0, q, had, q', hq, hh, hb, hs, hn, hT, hE => by
    cases hT
    refine Ev.step (fun _ => by rw [puncheonref08_Counts.l1]) ?_
    exact Ev.bind (rsum_ev q hq hb hs) (ev_neg (by omega) hE)
  | n + 1, q, had, q', hq, hh, hb, hs, hn, hT, hE => by
    cases hT with
    | succ hR hT =>
      rename_i s
      have hs1 := hR.1
      have hne : Ev (fun k => puncheonref08_neediest.f k rest had) (s : Int) := by
        unfold puncheonref08_neediest.f
        have := rneed_from rest had hr hh 256 0 (by omega)
        rw [needZ_of hR] at this
        exact this
      have hle : q.getD s 0 ≤ q.sum := by
        have h1 := sum_take_le (nn_mem hq hb) (s + 1)
        rw [take_snoc' q s (by omega), List.sum_append] at h1
        have h3 := sum_nonneg (l := q.take s) (fun x hx => nn_mem hq hb x (List.mem_of_mem_take hx))
        simp only [List.sum_cons, List.sum_nil] at h1
        omega
      have e1 := sum_set q s (q.getD s 0 + 1) (by omega)
      have hbs := hb s hs1
      refine Ev.step (fun _ => by rw [puncheonref08_Counts.l1]) ?_
      refine Ev.bind (rsum_ev q hq hb hs) (ev_pos (by omega) (Ev.bind hne (ev_pos (by omega) (ev_pos (by omega) (ev_pos (by omega) ?_)))))
      rw [rd_nat, Int.toNat_natCast, wraps (by omega) (by omega)]
      refine rgives_from c L rest hr r hL n _ _ q' (by simpa using hq) (by simpa using hh) (fun t ht => ?_) (by omega) (by omega) hT hE
      rw [getD_set _ _ _ _ (by omega)]
      have := hb t ht
      split <;> omega
section
variable {c : List Int} {a : Int} (hok : okC c a)
include hok
theorem rcounts_from (q : List Int) (hN : NormTo c (2 ^ a.toNat) q) : ∀ (d i : Nat), i + d = 256 →
    Ev (fun k => puncheonref08_Counts.l0 k c c.sum (2 ^ a.toNat) (fillL (floZ c (2 ^ a.toNat) c.sum) i) (fillL (fun s => c.getD s 0 * 2 ^ a.toNat % c.sum) i) (fillB (fun s => decide (whZ c (2 ^ a.toNat) c.sum s = 0)) i) (i : Int)) (q, 0)
  | 0, i, hd => by
    obtain ⟨g, ht⟩ := hok.good
    obtain ⟨h1, h2, h3, h4⟩ := hok
    have hb := pow_bd a h2 h3
    obtain rfl : i = 256 := by omega
    refine Ev.step (fun _ => by rw [puncheonref08_Counts.l0]) ?_
    refine ev_neg (by omega) ?_
    rw [fill_flo, fill_res, fill_had]
    have hs := flo_sum g
    obtain ⟨q1, hg, ht⟩ := hN
    obtain ⟨k1, k2, G, k3, k4, k5⟩ := gives_char _ _ _ _ _ (flo_len _ _ _) (hadL_len _ _ _) hg
    refine rgives_from c _ _ (resL_len _ _ _) (q, 0) (by omega) _ _ _ q1 (flo_len _ _ _) (hadL_len _ _ _) (fun s hs => (flo_bd g s hs).1) (by omega) rfl hg ?_
    refine rtakes_from c g.len _ (by omega) _ q1 q k1 (fun s hs => ?_) (by omega) (by omega) ht
    have := k3 s
    have := flo_bd g s hs
    split at * <;> omega
  | d + 1, i, hd => by
    have ih := rcounts_from q hN d (i + 1) (by omega)
    obtain ⟨g, ht⟩ := hok.good
    obtain ⟨h1, h2, h3, h4⟩ := hok
    have hb := pow_bd a h2 h3
    have hi : i < 256 := by omega
    have hlen := g.len
    have hn0 := g.n0
    obtain ⟨P, w, r, p⟩ := g.part i hi
    have hc0 := g.nn i
    have hc1 := g.le i hi
    have hc2 := g.bd
    have hP0 := p.P0
    have hw0 := p.w0
    have hw1 := p.w1
    have hPb : P ≤ 4611686018427387904 := by
      have h5 : c.getD i 0 * 2 ^ a.toNat ≤ c.getD i 0 * 4096 := Int.mul_le_mul_of_nonneg_left hb.2 hc0
      rw [p.hP] at h5
      omega
    have eP : wrap64 (rd c (i : Int) * 2 ^ a.toNat) = P := by rw [rd_nat, p.hP]; exact wraps (by omega) (by omega)
    have ew : wrap64 (Int.tdiv P c.sum) = w := by
      rw [Int.tdiv_eq_ediv_of_nonneg hP0]
      have : P / c.sum = w := by rw [← p.hw, ← p.hP]; rfl
      rw [this]; exact wraps (by omega) (by omega)
    have er : Int.tmod P c.sum = c.getD i 0 * 2 ^ a.toNat % c.sum := by
      rw [Int.tmod_eq_emod_of_nonneg hP0, p.hP]
    have hf : floZ c (2 ^ a.toNat) c.sum i = if w = 0 then mn (c.getD i 0) 1 else w := by rw [← p.hf, flo_get _ _ _ _ hi]
    refine Ev.step (fun _ => by rw [puncheonref08_Counts.l0]) ?_
    refine ev_pos (by omega) (ev_pos (by omega) (ev_pos (by omega) (ev_neg (by omega) (ev_pos (by rw [fillL_len]; omega) (ev_obind rfl (ev_pos (by rw [fillL_len]; omega) (ev_obind rfl ?_)))))))
    rw [eP, ew, er, Int.toNat_natCast, rd_nat, getD_set _ _ _ _ (by rw [fillL_len]; exact hi), if_pos rfl, wnext i (by omega), fillL_set (fun s => c.getD s 0 * 2 ^ a.toNat % c.sum) _ _ hi rfl]
    by_cases hw : w = 0
    · rw [if_pos hw] at hf
      refine ev_pos hw (ev_pos (by rw [fillB_len]; omega) ?_)
      rw [List.set_set, rd_nat, fillL_set _ _ _ hi hf.symm, fillB_set _ _ _ hi (by rw [p.hw]; simp [hw])]
      exact ih
    · rw [if_neg hw] at hf
      refine ev_neg hw ?_
      rw [fillL_set _ _ _ hi hf.symm, fillB_next _ _ hi (by rw [p.hw]; simpa using hw)]
      exact ih
end
theorem rcounts_ev (c : List Int) (a : Int) (hm : c.length ≤ 4611686018427387000) {q : List Int} {e : Int} (h : CntTo c a q e) : Ev (fun k => puncheonref08_Counts.f k c a) (q, e) := by
  have hno : Ev (fun k => puncheonref08_Counts.j0 k c a (totZ c) true) (([] : List Int), 1) := Ev.step (fun _ => by rw [puncheonref08_Counts.j0]) (ev_pos rfl (Ev.now _))
  unfold puncheonref08_Counts.f
  refine Ev.bind (rtotal_ev c hm) ?_
  by_cases h1 : totZ c = 0
  · obtain ⟨rfl, rfl⟩ := h.no (fun hk => hk.1 h1)
    exact ev_pos h1 hno
  refine ev_neg h1 ?_
  by_cases h2 : a < 1
  · obtain ⟨rfl, rfl⟩ := h.no (fun hk => by have := hk.2.1; omega)
    exact ev_pos h2 hno
  refine ev_neg h2 ?_
  by_cases h3 : a > 12
  · obtain ⟨rfl, rfl⟩ := h.no (fun hk => by have := hk.2.2.1; omega)
    rw [decide_eq_true h3]; exact hno
  rw [decide_eq_false h3]
  refine Ev.step (fun _ => by rw [puncheonref08_Counts.j0]) ?_
  refine ev_neg (by simp) (Ev.bind (power_ev a (by omega) (by omega)) (Ev.bind (rmany_ev c hm) ?_))
  by_cases h4 : manyZ c > 2 ^ a.toNat
  · obtain ⟨rfl, rfl⟩ := h.no (fun hk => by have := hk.2.2.2; omega)
    exact ev_pos h4 (Ev.now _)
  · have hok : okC c a := ⟨h1, by omega, by omega, by omega⟩
    obtain ⟨hN, rfl⟩ := h.yes hok
    obtain ⟨g, ht⟩ := hok.good
    refine ev_neg h4 (ev_pos (by omega) (ev_pos (by omega) ?_))
    have := rcounts_from hok q hN 256 0 (by omega)
    rw [fillL_0, fillL_0, fillB_0] at this
    rw [ht]
    exact this
end Go.Proofs.Ytonicgihpjolmaa
