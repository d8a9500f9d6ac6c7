/- The pure statement of NormLogs. -/
import Derived.Test.YtlcpcnachdbboaaPnl
import Derived.Test.YtlcpcnachdbboaaPPrx10
namespace Go.Proofs.Ytlcpcnachdbboaa.Pure
open Go.RowKit Go.Proofs.Ytlcpcnachdbboaa Go.Proofs.Ytlcpcnachdbboaa.PPr Go.Proofs.YtlcpcnachdbboaaW.PrintWords Go.Proofs.YtlcpcnachdbboaaW.PrintLast Go.Proofs.YtlcpcnachdbboaaW.PrintMore
theorem NormLogs : puncheonlaw08_NormLogs.Pure := by
  intro l a hm hs hw ha
  refine ev_bool (b := true) ?_ rfl
  unfold puncheonlaw08_NormLogs.f
  refine Ev.bind awake08 ?_
  by_cases hb : (l.length : Int) > 300
  · exact ev_pos hb (Ev.now _)
  · have hl : l.length ≤ 4611686018427387000 := by omega
    have h2 := lg_two (totZ l) 12 1 (by omega)
    refine ev_neg hb (Ev.bind (log_ev l hl) (Ev.bind (rlog_ev l hl) ?_))
    have hr := nright_ev l a hl
    generalize lg (totZ l) 12 1 = x at h2 hr ⊢
    obtain ⟨x, b⟩ := x
    have h2 : b = decide (0 < x) := h2
    subst h2
    refine ev_pos rfl (ev_pos rfl (ev_pos (by simp) (Ev.bind hr ?_)))
    by_cases hx : x > 0
    · exact ev_pos hx (ev_eq (Ev.now _) (by simp [hx]))
    · exact ev_neg hx (ev_eq (Ev.now _) (by simp [hx]))
end Go.Proofs.Ytlcpcnachdbboaa.Pure
