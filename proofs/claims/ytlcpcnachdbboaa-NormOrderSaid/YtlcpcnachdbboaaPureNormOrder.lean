/- The pure statement of NormOrder. -/
import Derived.Test.YtlcpcnachdbboaaPnl
import Derived.Test.YtlcpcnachdbboaaPPrx8
namespace Go.Proofs.Ytlcpcnachdbboaa.Pure
open Go.RowKit Go.Proofs.Ytlcpcnachdbboaa Go.Proofs.Ytlcpcnachdbboaa.PPr Go.Proofs.YtlcpcnachdbboaaW.PrintWords Go.Proofs.YtlcpcnachdbboaaW.PrintLast Go.Proofs.YtlcpcnachdbboaaW.PrintMore
theorem NormOrder : puncheonlaw08_NormOrder.Pure := by
  intro l a x y hm hs hw ha hx hy
  have ha := bounds_u8 ha
  have hx := bounds_u8 hx
  have hy := bounds_u8 hy
  refine ev_bool (b := true) ?_ rfl
  unfold puncheonlaw08_NormOrder.f
  refine Ev.bind awake08 ?_
  by_cases hb : (l.length : Int) > 80
  · exact ev_pos hb (Ev.now _)
  refine ev_neg hb ?_
  obtain ⟨c, hc, sc⟩ := some_ev l hw
  obtain ⟨A, hA, A0, A1⟩ := logA a ha.1 ha.2
  rw [hA]
  obtain ⟨q, e, h⟩ := cntTo_ex c A
  have hl := sc.len
  refine Ev.bind hc (Ev.bind (counts_ev c A (by omega) h) ?_)
  by_cases hk : okC c A
  · obtain ⟨hN, rfl⟩ := h.yes hk
    have g := hk.good.1
    obtain ⟨q1, q2, q3⟩ := norm_facts g hN
    refine ev_pos rfl (ev_pos (by show (q.length : Int) = 256; omega) (ev_pos rfl (ev_pos (by omega) (ev_pos (by omega) (ev_pos (by omega) (ev_pos (by omega) ?_))))))
    by_cases hle : rd c x ≤ rd c y
    · exact ev_pos hle (Ev.now _)
    · refine ev_neg hle (ev_pos (by show x < (q.length : Int); omega) (ev_pos (by show y < (q.length : Int); omega) (ev_eq (Ev.now _) ?_)))
      rw [decide_eq_true_iff]
      exact norm_order g hN x.toNat y.toNat (by omega) (by omega) (by unfold rd at hle; omega)
  · obtain ⟨rfl, rfl⟩ := h.no hk
    exact ev_neg (by decide) (ev_pos rfl (Ev.now _))
end Go.Proofs.Ytlcpcnachdbboaa.Pure
