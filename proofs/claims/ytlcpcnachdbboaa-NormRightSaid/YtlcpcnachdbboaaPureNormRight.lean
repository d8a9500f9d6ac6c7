/- The pure statement of NormRight. -/
import Derived.Test.YtlcpcnachdbboaaPnl
import Derived.Test.YtlcpcnachdbboaaPPrx8
namespace Go.Proofs.Ytlcpcnachdbboaa.Pure
open Go.RowKit Go.Proofs.Ytlcpcnachdbboaa Go.Proofs.Ytlcpcnachdbboaa.PPr Go.Proofs.YtlcpcnachdbboaaW.PrintWords Go.Proofs.YtlcpcnachdbboaaW.PrintLast Go.Proofs.YtlcpcnachdbboaaW.PrintMore
theorem right_loop (c q : List Int) (A : Int) (hl : c.length = 256) (ql : q.length = 256) (hq : ∀ s, s < 256 → (0 < q.getD s 0 ↔ 0 < c.getD s 0)) (r : Bool) (hE : Ev (fun k => (norm_Counts.f k q A).bind fun bt234 => (if true = true then ((norm_Right.f k q A).bind fun t238 => (if t238 = true then (if bt234.2 = 0 then ((puncheonref01_Ints.f k bt234.1 q).bind fun t239 => (some t239)) else (some false)) else (some false))) else (some false))) r) :
    ∀ (d i : Nat), i + d = 256 → Ev (fun k => puncheonlaw08_NormRight.l0 k true c A q (i : Int)) r
  | 0, i, hd => by
    refine Ev.step (fun _ => by rw [puncheonlaw08_NormRight.l0]) ?_
    exact ev_neg (by omega) hE
  | d + 1, i, hd => by
    refine Ev.step (fun _ => by rw [puncheonlaw08_NormRight.l0]) ?_
    refine ev_pos (by omega) (ev_pos (by omega) (ev_pos (by omega) (ev_pos (by omega) (ev_neg ?_ ?_))))
    · rw [rd_nat, rd_nat]
      have := hq i (by omega)
      by_cases h : 0 < c.getD i 0
      · have h' := this.2 h
        rw [decide_eq_true h, decide_eq_true h']; simp
      · have h' : ¬ 0 < q.getD i 0 := fun h' => h (this.1 h')
        rw [decide_eq_false h, decide_eq_false h']; simp
    · rw [wnext i (by omega)]
      exact right_loop c q A hl ql hq r hE d (i + 1) (by omega)
theorem NormRight : puncheonlaw08_NormRight.Pure := by
  intro l a hm hs hw ha
  have ha := bounds_u8 ha
  refine ev_bool (b := true) ?_ rfl
  unfold puncheonlaw08_NormRight.f
  refine Ev.bind awake08 ?_
  by_cases hb : (l.length : Int) > 80
  · exact ev_pos hb (Ev.now _)
  refine ev_neg hb ?_
  obtain ⟨c, hc, sc⟩ := some_ev l hw
  obtain ⟨A, hA, A0, A1⟩ := logA a ha.1 ha.2
  rw [hA]
  obtain ⟨q, e, h⟩ := cntTo_ex c A
  have hl := sc.len
  refine Ev.bind hc (Ev.bind (counts_ev c A (by omega) h) (Ev.bind (total_ev c (by omega)) ?_))
  have hj : ¬ okC c A → Ev (fun k => puncheonlaw08_NormRight.j0 k true c A q e true) true := by
    intro hk
    obtain ⟨rfl, rfl⟩ := h.no hk
    refine Ev.step (fun _ => by rw [puncheonlaw08_NormRight.j0]) ?_
    exact ev_pos rfl (ev_pos rfl (ev_pos rfl (Ev.now _)))
  by_cases h1 : totZ c = 0
  · exact ev_pos h1 (hj (fun hk => hk.1 h1))
  refine ev_neg h1 (Ev.bind (many_ev c (by omega)) (ev_pos (by omega) ?_))
  rw [shlE 1 A (by omega) (by omega) (by omega), Int.one_mul]
  by_cases h4 : manyZ c > 2 ^ A.toNat
  · rw [decide_eq_true h4]
    exact hj (fun hk => by have := hk.2.2.2; omega)
  · rw [decide_eq_false h4]
    have hk : okC c A := ⟨h1, by omega, by omega, by omega⟩
    obtain ⟨hN, rfl⟩ := h.yes hk
    have g := hk.good.1
    obtain ⟨q1, q2, q3⟩ := norm_facts g hN
    have hp := pow_bd A (by omega) (by omega)
    have hr : rightB q = true := (rightB_iff q).2 ⟨q1, nn_mem q1 (fun s hs => (q3 s hs).1), by omega⟩
    have ht : totZ q = 2 ^ A.toNat := by unfold totZ; rw [if_pos hr, q2]
    have hpl := pos_le_sum q1 (fun s hs => (q3 s hs).1)
    have hk2 : okC q A := ⟨by omega, by omega, by omega, by unfold manyZ; rw [if_pos hr]; omega⟩
    have h2 : CntTo q A q 0 := ⟨fun _ => ⟨norm_again q1 q2 (by omega) (fun s hs => (q3 s hs).1), rfl⟩, fun h => absurd hk2 h⟩
    have hR := nright_ev q A (by omega)
    rw [ht, lg_hit A (by omega) (by omega)] at hR
    refine Ev.step (fun _ => by rw [puncheonlaw08_NormRight.j0]) ?_
    refine ev_neg (by simp) (ev_pos rfl ?_)
    rw [show ((q.length : Int) != 256) = false by rw [q1]; rfl]
    refine Ev.step (fun _ => by rw [puncheonlaw08_NormRight.j1]) ?_
    refine ev_neg (by simp) ?_
    refine right_loop c q A hl q1 (fun s hs => (q3 s hs).2) true ?_ 256 0 (by omega)
    exact Ev.bind (counts_ev q A (by omega) h2) (ev_pos rfl (Ev.bind hR (ev_pos (by simp) (ev_pos rfl (Ev.bind (ints_ev q q (by omega)) (ev_eq (Ev.now _) (by simp)))))))
end Go.Proofs.Ytlcpcnachdbboaa.Pure
