/- The pure statement of SpreadFirst. -/
import Derived.Test.YtonicgihpjolmaaPs
import Derived.Test.YtonicgihpjolmaaPPrx13
namespace Go.Proofs.Ytonicgihpjolmaa.Pure
open Go.RowKit Go.Proofs.Ytonicgihpjolmaa Go.Proofs.Ytonicgihpjolmaa.PPr Go.Proofs.YtonicgihpjolmaaW.PrintWords Go.Proofs.YtonicgihpjolmaaW.PrintLast Go.Proofs.YtonicgihpjolmaaW.PrintMore HK
theorem awake10 : Ev (fun k => puncheonlaw10_awake.f k) true := Ev.of (fun k => puncheonlaw10_awake.mono k) (k := 300) (by decide +kernel)
theorem first_l0 {q : List Int} {L : List S} (h : OrdL q L) (hN : Nq q) : ∀ (d t : Nat), t + d = 256 →
    Ev (fun k => puncheonlaw10_SpreadFirst.l0 k true q (symL L) (haveTo q t : Int) (t : Int)) true
  | 0, t, hd => by
    refine Ev.step (fun _ => by rw [puncheonlaw10_SpreadFirst.l0]) ?_
    exact ev_neg (by omega) (Ev.now _)
  | d + 1, t, hd => by
    have a1 := hN.len
    have a3 := hN.nn t
    have ih := first_l0 h hN d (t + 1) (by omega)
    have hle := haveTo_le q t
    rw [haveTo_succ] at ih
    refine Ev.step (fun _ => by rw [puncheonlaw10_SpreadFirst.l0]) ?_
    rw [rd_nat q t, wnext t (by omega), wnext (haveTo q t) (by omega), symL_len]
    refine ev_pos (by omega) (ev_pos (by omega) (ev_pos (by omega) ?_))
    by_cases c : q.getD t 0 = 0
    · rw [if_neg (by omega)] at ih; exact ev_pos c ih
    · rw [if_pos (by omega)] at ih
      have hx : IsKey q (key q t (q.getD t 0)) := ⟨t, _, by omega, Int.le_refl _, by omega, rfl⟩
      obtain ⟨p1, p2⟩ := h.s.there hN hx
      rw [place_first hN t (by omega) (by omega)] at p1 p2
      refine ev_neg c (ev_neg (by omega) (ev_pos (by omega) (ev_pos (by omega) (ev_pos ?_ ih))))
      rw [rd_nat, symL_get L _ p1, p2]
      exact wraps (by show -4611686018427387904 ≤ (t : Int); omega) (by show (t : Int) ≤ 4611686018427387904; omega)
theorem SpreadFirst : puncheonlaw10_SpreadFirst.Pure := by
  intro l a hm hs hw ha
  have ha := bounds_u8 ha
  refine ev_bool (b := true) ?_ rfl
  unfold puncheonlaw10_SpreadFirst.f
  refine Ev.bind awake10 ?_
  by_cases hb : (l.length : Int) > 80
  · exact ev_pos hb (Ev.now _)
  refine ev_neg hb ?_
  obtain ⟨q, k, hq, sq⟩ := someQ_ev l a hw ha.1 ha.2
  refine Ev.bind hq ?_
  dsimp only
  obtain ⟨L, hL⟩ := ordL_ex sq.N.nq
  exact Ev.bind (spreadOf_ev sq.N hL) (ev_pos rfl (first_l0 hL sq.N.nq 256 0 (by omega)))
end Go.Proofs.Ytonicgihpjolmaa.Pure
