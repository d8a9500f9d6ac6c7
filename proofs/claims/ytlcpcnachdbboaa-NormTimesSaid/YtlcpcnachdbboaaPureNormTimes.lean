/- The pure statement of NormTimes. -/
import Derived.Test.YtlcpcnachdbboaaPnl
import Derived.Test.YtlcpcnachdbboaaPPrx12
namespace Go.Proofs.Ytlcpcnachdbboaa.Pure
open Go.RowKit Go.Proofs.Ytlcpcnachdbboaa Go.Proofs.Ytlcpcnachdbboaa.PPr Go.Proofs.YtlcpcnachdbboaaW.PrintWords Go.Proofs.YtlcpcnachdbboaaW.PrintLast Go.Proofs.YtlcpcnachdbboaaW.PrintMore
theorem times_loop (c q : List Int) (e a x m A : Int) (hA : wrap64 (1 + wrap64 (Int.tmod a 12)) = A) (hl : c.length = 256) (hm : wrap64 (wrap64 x + 1) = m) (m0 : 0 < m) (m1 : m ≤ 256) (hc : ∀ s, s < 256 → 0 ≤ c.getD s 0 ∧ c.getD s 0 ≤ 1073741824) (h1 : CntTo c A q e) (h2 : CntTo (fillL (fun s => m * c.getD s 0) 256) A q e) (hq : q.length ≤ 256) :
    ∀ (d i : Nat), i + d = 256 → Ev (fun k => puncheonlaw08_NormTimes.l0 k a x true c (fillL (fun s => m * c.getD s 0) i) (i : Int)) true
  | 0, i, hd => by
    obtain rfl : i = 256 := by omega
    refine Ev.step (fun _ => by rw [puncheonlaw08_NormTimes.l0]) ?_
    rw [hA]
    refine ev_neg (by omega) (Ev.bind (counts_ev c A (by omega) h1) (Ev.bind (counts_ev _ A (by rw [fillL_len]; omega) h2) ?_))
    exact ev_pos rfl (ev_pos rfl (Ev.bind (ints_ev q q (by omega)) (ev_eq (Ev.now _) (by simp))))
  | d + 1, i, hd => by
    have hci := hc i (by omega)
    have hb : c.getD i 0 * m ≤ c.getD i 0 * 256 := Int.mul_le_mul_of_nonneg_left m1 hci.1
    have hb2 : 0 ≤ c.getD i 0 * m := Int.mul_nonneg hci.1 (by omega)
    refine Ev.step (fun _ => by rw [puncheonlaw08_NormTimes.l0]) ?_
    refine ev_pos (by omega) (ev_pos (by omega) (ev_pos (by omega) (ev_pos (by rw [fillL_len]; omega) ?_)))
    rw [hm, rd_nat, wnext i (by omega), wraps (x := c.getD i 0 * m) (by omega) (by omega), Int.toNat_natCast, fillL_set _ _ _ (by omega) (Int.mul_comm _ _)]
    exact times_loop c q e a x m A hA hl hm m0 m1 hc h1 h2 hq d (i + 1) (by omega)
theorem NormTimes : puncheonlaw08_NormTimes.Pure := by
  intro l a x hm hs hw ha hx
  have ha := bounds_u8 ha
  have hx := bounds_u8 hx
  refine ev_bool (b := true) ?_ rfl
  unfold puncheonlaw08_NormTimes.f
  refine Ev.bind awake08 ?_
  by_cases hb : (l.length : Int) > 80
  · exact ev_pos hb (Ev.now _)
  refine ev_neg hb ?_
  obtain ⟨c, hc, sc⟩ := some_ev l hw
  obtain ⟨A, hA, A0, A1⟩ := logA a ha.1 ha.2
  obtain ⟨q, e, h⟩ := cntTo_ex c A
  have hl := sc.len
  have hr := sc.right
  have hbd := sc.bd
  refine Ev.bind hc (ev_pos (by omega) ?_)
  obtain ⟨m, hm'⟩ : ∃ m, m = x + 1 := ⟨_, rfl⟩
  have hmm : wrap64 (wrap64 x + 1) = m := by rw [wraps (x := x) (by omega) (by omega), wraps (by omega) (by omega), hm']
  have hnn : ∀ s, 0 ≤ c.getD s 0 := by
    intro s
    rcases Nat.lt_or_ge s c.length with h | h
    · exact sc.nn _ (getD_mem s h)
    · rw [List.getD_eq_getElem?_getD, List.getElem?_eq_none h]; simp
  have hle : ∀ s, s < 256 → c.getD s 0 ≤ c.sum := by
    intro s hs
    have h1 := sum_take_le sc.nn (s + 1)
    rw [take_snoc' c s (by omega), List.sum_append] at h1
    have h2 := sum_nonneg (l := c.take s) (fun x hx => sc.nn x (List.mem_of_mem_take hx))
    simp only [List.sum_cons, List.sum_nil] at h1
    omega
  have hg : ∀ s, s < 256 → (fillL (fun s => m * c.getD s 0) 256).getD s 0 = m * c.getD s 0 := by
    intro s hs; rw [fillL_get _ _ _ hs, if_pos hs]
  have hfl := fillL_len (fun s => m * c.getD s 0) 256
  generalize hc' : fillL (fun s => m * c.getD s 0) 256 = c' at hg hfl
  have hsum := times_sum hl hfl hg
  have hs0 := sum_nonneg sc.nn
  have hb1 : m * c.sum ≤ 256 * c.sum := Int.mul_le_mul_of_nonneg_right (by omega) hs0
  have hr' : rightB c' = true := (rightB_iff c').2 ⟨hfl, nn_mem hfl (fun s hs => by rw [hg s hs]; exact Int.mul_nonneg (by omega) (hnn s)), by omega⟩
  have hpos : pos c' = pos c := by
    rw [pos_sumTo, pos_sumTo, hfl, hl]
    refine sumTo_congr fun i hi => ?_
    rw [hg i hi]
    have h2 : 0 < m * c.getD i 0 ↔ 0 < c.getD i 0 := ⟨fun h => Int.pos_of_mul_pos_right h (by omega), fun h => Int.mul_pos (by omega) h⟩
    by_cases hp : 0 < c.getD i 0
    · rw [if_pos hp, if_pos (h2.2 hp)]
    · rw [if_neg hp, if_neg (fun h => hp (h2.1 h))]
  have hiff : okC c' A ↔ okC c A := by
    unfold okC totZ manyZ
    rw [if_pos hr, if_pos hr', if_pos hr, if_pos hr', hpos, hsum]
    have : m * c.sum ≠ 0 ↔ c.sum ≠ 0 := by
      rw [Int.mul_ne_zero_iff]
      exact ⟨fun h => h.2, fun h => ⟨by omega, h⟩⟩
    rw [this]
  have h2 : CntTo c' A q e := by
    refine ⟨fun hk => ?_, fun hk => h.no (fun h => hk (hiff.2 h))⟩
    have hk1 := hiff.1 hk
    exact ⟨norm_times hk1.good.1 hfl (by omega) hg (h.yes hk1).1, (h.yes hk1).2⟩
  have hq : q.length ≤ 256 := by
    by_cases hk : okC c A
    · have := (norm_facts hk.good.1 (h.yes hk).1).1; omega
    · rw [(h.no hk).1]; simp
  subst hc'
  have := times_loop c q e a x m A hA hl hmm (by omega) (by omega) (fun s hs => ⟨hnn s, by have := hle s hs; omega⟩) h h2 hq 256 0 (by omega)
  rw [fillL_0] at this
  exact this
end Go.Proofs.Ytlcpcnachdbboaa.Pure
