/- The pure statement of CtxTells: each answer of the layer ctx is the reference's. -/
import Derived.Test.YthkpjjkjdklpmaaPcl
import Derived.Test.YthkpjjkjdklpmaaPPrx7
namespace Go.Proofs.Ythkpjjkjdklpmaa.Pure
open Go.RowKit Go.Proofs.Ythkpjjkjdklpmaa.PPr Go.Proofs.YthkpjjkjdklpmaaW.PrintWords Go.Proofs.YthkpjjkjdklpmaaW.PrintLast Go.Proofs.YthkpjjkjdklpmaaW.PrintMore
theorem CtxTells : puncheonlaw06_CtxTells.Pure := by
  intro l a c hm hs hw ha hc
  have hok := u8s hw
  have hl : l.length ≤ 1099511627776 ∨ 100 < (l.length : Int) := by omega
  have ha := bounds_i64 ha
  refine ev_bool (b := true) ?_ rfl
  unfold puncheonlaw06_CtxTells.f
  refine Ev.bind awake06 ?_
  by_cases hb : (l.length : Int) > 100
  · exact ev_pos hb (Ev.now _)
  · have hl : l.length ≤ 1099511627776 := by omega
    refine ev_neg hb (ev_pos rfl (Ev.bind (at_ev l hok hl a ha.1 ha.2) (ev_obind (rat_eq l hok hl a) (ev_pos rfl ?_))))
    refine ev_obind (for_eq l hok hl c) (Ev.bind (rfor_ev l hok hl c) (Ev.bind (ints_ev _ _ (by rw [forZ_len]; omega)) (ev_pos (by simp) ?_)))
    have hp := presTo_len (metTo l l.length) 256
    refine ev_obind (pres_eq l hok hl) (Ev.bind (rpres_ev l hok hl) (Ev.bind (ints_ev (presZ l) (presZ l) (by unfold presZ; omega)) (ev_pos (by simp) ?_)))
    exact Ev.bind (wid_ev l hok hl) (Ev.bind (rwid_ev l hok hl) (ev_eq (Ev.now _) (by simp)))
end Go.Proofs.Ythkpjjkjdklpmaa.Pure
