/- The pure statement of NormTells. -/
import Derived.Test.YtlcpcnachdbboaaPnl
import Derived.Test.YtlcpcnachdbboaaPPrx10
namespace Go.Proofs.Ytlcpcnachdbboaa.Pure
open Go.RowKit Go.Proofs.Ytlcpcnachdbboaa Go.Proofs.Ytlcpcnachdbboaa.PPr Go.Proofs.YtlcpcnachdbboaaW.PrintWords Go.Proofs.YtlcpcnachdbboaaW.PrintLast Go.Proofs.YtlcpcnachdbboaaW.PrintMore
theorem NormTells : puncheonlaw08_NormTells.Pure := by
  intro l a hm hs hw ha
  refine ev_bool (b := true) ?_ rfl
  unfold puncheonlaw08_NormTells.f
  refine Ev.bind awake08 ?_
  by_cases hb : (l.length : Int) > 300
  · exact ev_pos hb (Ev.now _)
  · have hl : l.length ≤ 4611686018427387000 := by omega
    obtain ⟨q, e, h⟩ := cntTo_ex l a
    have hq : q.length ≤ 256 := by
      by_cases hk : okC l a
      · have := (norm_facts hk.good.1 (h.yes hk).1).1; omega
      · rw [(h.no hk).1]; simp
    refine ev_neg hb (Ev.bind (counts_ev l a hl h) (Ev.bind (rcounts_ev l a hl h) (ev_pos rfl (ev_pos rfl (Ev.bind (ints_ev q q (by omega)) (ev_eq (Ev.now _) (by simp)))))))
end Go.Proofs.Ytlcpcnachdbboaa.Pure
