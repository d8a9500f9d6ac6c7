/- The pure statement of NormNear. -/
import Derived.Test.YtlcpcnachdbboaaPnl
import Derived.Test.YtlcpcnachdbboaaPPrx12
namespace Go.Proofs.Ytlcpcnachdbboaa.Pure
open Go.RowKit Go.Proofs.Ytlcpcnachdbboaa Go.Proofs.Ytlcpcnachdbboaa.PPr Go.Proofs.YtlcpcnachdbboaaW.PrintWords Go.Proofs.YtlcpcnachdbboaaW.PrintLast Go.Proofs.YtlcpcnachdbboaaW.PrintMore
/-- is one of the first so small -/
def smallTo (c : List Int) (L n : Int) : Nat → Bool
  | 0 => false
  | i + 1 => if 0 < c.getD i 0 ∧ c.getD i 0 * L < n then true else smallTo c L n i
theorem smallTo_no (c : List Int) (L n : Int) : ∀ i, smallTo c L n i = false → ∀ t, t < i → 0 < c.getD t 0 → n ≤ c.getD t 0 * L
  | 0, _, t, ht, _ => by omega
  | i + 1, h, t, ht, h0 => by
    rw [smallTo] at h
    split at h
    · cases h
    · rename_i hn
      by_cases e : t = i
      · subst e; exact Int.not_lt.1 (fun h => hn ⟨h0, h⟩)
      · exact smallTo_no c L n i h t (by omega) h0
theorem near_loop (c q : List Int) (A x : Int) (hl : c.length = 256) (ql : q.length = 256) (hx : 0 ≤ x ∧ x ≤ 255) (A0 : 1 ≤ A) (A1 : A ≤ 12) (hc : ∀ s, s < 256 → 0 ≤ c.getD s 0 ∧ c.getD s 0 ≤ 1073741824) (hn : 0 ≤ c.sum ∧ c.sum ≤ 1073741824)
    (hq : 0 ≤ q.getD x.toNat 0 ∧ q.getD x.toNat 0 ≤ 4096)
    (h1 : q.getD x.toNat 0 * c.sum < c.getD x.toNat 0 * 2 ^ A.toNat + c.sum) (h2 : smallTo c (2 ^ A.toNat) c.sum 256 = false → q.getD x.toNat 0 * c.sum > c.getD x.toNat 0 * 2 ^ A.toNat - c.sum) :
    ∀ (d i : Nat), i + d = 256 → Ev (fun k => puncheonlaw08_NormNear.l0 k x true c A q c.sum (smallTo c (2 ^ A.toNat) c.sum i) (i : Int)) true
  | 0, i, hd => by
    obtain rfl : i = 256 := by omega
    have hp := pow_bd A A0 A1
    have hcx := hc x.toNat (by omega)
    have hs : shl .i64 (rd c x) A = c.getD x.toNat 0 * 2 ^ A.toNat := shlE _ _ hcx.1 A1 (by unfold rd; omega)
    have hb1 : c.getD x.toNat 0 * 2 ^ A.toNat ≤ c.getD x.toNat 0 * 4096 := Int.mul_le_mul_of_nonneg_left hp.2 hcx.1
    have hb2 : 0 ≤ c.getD x.toNat 0 * 2 ^ A.toNat := Int.mul_nonneg hcx.1 (by omega)
    have hb3 : q.getD x.toNat 0 * c.sum ≤ 4096 * c.sum := Int.mul_le_mul_of_nonneg_right hq.2 hn.1
    have hb4 : 0 ≤ q.getD x.toNat 0 * c.sum := Int.mul_nonneg hq.1 hn.1
    refine Ev.step (fun _ => by rw [puncheonlaw08_NormNear.l0]) ?_
    refine ev_neg (by omega) (ev_pos (by omega) (ev_pos (by omega) (ev_pos (by omega) (ev_pos rfl (ev_pos (by omega) ?_)))))
    rw [hs, show rd q x = q.getD x.toNat 0 from rfl, wraps (x := q.getD x.toNat 0 * c.sum) (by omega) (by omega), wraps (by omega) (by omega), wraps (by omega) (by omega)]
    refine ev_pos h1 ?_
    cases hsm : smallTo c (2 ^ A.toNat) c.sum 256 with
    | true => exact ev_pos rfl (Ev.now _)
    | false => exact ev_neg (by simp) (ev_eq (Ev.now _) (decide_eq_true (h2 hsm)))
  | d + 1, i, hd => by
    have ih := near_loop c q A x hl ql hx A0 A1 hc hn hq h1 h2 d (i + 1) (by omega)
    rw [smallTo] at ih
    have hci := hc i (by omega)
    have hs : shl .i64 (rd c (i : Int)) A = c.getD i 0 * 2 ^ A.toNat := shlE _ _ hci.1 A1 (by rw [rd_nat]; omega)
    refine Ev.step (fun _ => by rw [puncheonlaw08_NormNear.l0]) ?_
    refine ev_pos (by omega) (ev_pos (by omega) (ev_pos (by omega) ?_))
    rw [hs, rd_nat, wnext i (by omega)]
    by_cases c1 : c.getD i 0 > 0
    · refine ev_pos c1 (ev_pos (by omega) ?_)
      by_cases c2 : c.getD i 0 * 2 ^ A.toNat < c.sum
      · rw [if_pos ⟨c1, c2⟩] at ih; exact ev_pos c2 ih
      · rw [if_neg (fun h => c2 h.2)] at ih; exact ev_neg c2 ih
    · rw [if_neg (fun h => c1 h.1)] at ih; exact ev_neg c1 ih
theorem NormNear : puncheonlaw08_NormNear.Pure := by
  intro l a x hm hs hw ha hx
  have ha := bounds_u8 ha
  have hx := bounds_u8 hx
  refine ev_bool (b := true) ?_ rfl
  unfold puncheonlaw08_NormNear.f
  refine Ev.bind awake08 ?_
  by_cases hb : (l.length : Int) > 80
  · exact ev_pos hb (Ev.now _)
  refine ev_neg hb ?_
  obtain ⟨c, hc, sc⟩ := some_ev l hw
  obtain ⟨A, hA, A0, A1⟩ := logA a ha.1 ha.2
  rw [hA]
  obtain ⟨q, e, h⟩ := cntTo_ex c A
  have hl := sc.len
  refine Ev.bind hc (Ev.bind (counts_ev c A (by omega) h) ?_)
  by_cases hk : okC c A
  · obtain ⟨hN, rfl⟩ := h.yes hk
    obtain ⟨g, ht⟩ := hk.good
    obtain ⟨q1, q2, q3⟩ := norm_facts g hN
    have hp := pow_bd A A0 A1
    have hbd := g.bd
    have hn0 := g.n0
    have hqx : q.getD x.toNat 0 ≤ q.sum := by
      have h1 := sum_take_le (nn_mem q1 (fun s hs => (q3 s hs).1)) (x.toNat + 1)
      rw [take_snoc' q x.toNat (by omega), List.sum_append] at h1
      have h3 := sum_nonneg (l := q.take x.toNat) (fun y hy => nn_mem q1 (fun s hs => (q3 s hs).1) y (List.mem_of_mem_take hy))
      simp only [List.sum_cons, List.sum_nil] at h1
      omega
    refine ev_pos rfl (ev_pos (by show (q.length : Int) = 256; omega) (Ev.bind (total_ev c (by omega)) ?_))
    rw [ht]
    exact near_loop c q A x hl q1 hx A0 A1 (fun s hs => ⟨g.nn s, by have := g.le s hs; omega⟩) ⟨by omega, hbd⟩ ⟨(q3 _ (by omega)).1, by omega⟩ (norm_hi g hN _ (by omega)) (fun hsm => norm_lo g hN (fun t ht h0 => smallTo_no _ _ _ 256 hsm t ht h0) _ (by omega)) 256 0 (by omega)
  · obtain ⟨rfl, rfl⟩ := h.no hk
    exact ev_neg (by decide) (ev_pos rfl (Ev.now _))
end Go.Proofs.Ytlcpcnachdbboaa.Pure
