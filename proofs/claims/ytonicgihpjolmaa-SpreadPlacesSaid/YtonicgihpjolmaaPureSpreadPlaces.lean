/- The pure statement of SpreadPlaces. -/
import Derived.Test.YtonicgihpjolmaaPs
import Derived.Test.YtonicgihpjolmaaPPrx11
namespace Go.Proofs.Ytonicgihpjolmaa.Pure
open Go.RowKit Go.Proofs.Ytonicgihpjolmaa Go.Proofs.Ytonicgihpjolmaa.PPr Go.Proofs.YtonicgihpjolmaaW.PrintWords Go.Proofs.YtonicgihpjolmaaW.PrintLast Go.Proofs.YtonicgihpjolmaaW.PrintMore HK
theorem awake10 : Ev (fun k => puncheonlaw10_awake.f k) true := Ev.of (fun k => puncheonlaw10_awake.mono k) (k := 300) (by decide +kernel)
theorem SpreadPlaces : puncheonlaw10_SpreadPlaces.Pure := by
  intro l a s i hm hs hw ha hs1 hi1
  have ha := bounds_u8 ha
  have hs1 := bounds_i64 hs1
  have hi1 := bounds_i64 hi1
  refine ev_bool (b := true) ?_ rfl
  unfold puncheonlaw10_SpreadPlaces.f
  refine Ev.bind awake10 ?_
  by_cases hb : (l.length : Int) > 80
  · exact ev_pos hb (Ev.now _)
  refine ev_neg hb ?_
  obtain ⟨q, k, hq, sq⟩ := someQ_ev l a hw ha.1 ha.2
  refine Ev.bind hq ?_
  dsimp only
  have hN := sq.N.nq
  obtain ⟨L, hL⟩ := ordL_ex hN
  have hl := hN.len
  by_cases hk : (0 ≤ s ∧ s ≤ 255) ∧ q.getD s.toNat 0 ≤ i ∧ i < 2 * q.getD s.toNat 0
  · obtain ⟨⟨h0, h1⟩, h2, h3⟩ := hk
    have hb := hN.bd s.toNat
    have hx : IsKey q (key q s.toNat i) := ⟨s.toNat, i, by omega, h2, h3, rfl⟩
    have hp := spreadPlace_ev sq.N hL hx
    have hr := rplace_ev hN s.toNat (by omega) i (by omega) (by omega)
    rw [show (key q s.toNat i).f2 = s from Int.toNat_of_nonneg h0, show (key q s.toNat i).f0 = i from rfl] at hp
    rw [show ((s.toNat : Nat) : Int) = s from Int.toNat_of_nonneg h0] at hr
    refine Ev.bind hp (ev_pos (by omega) ?_)
    refine Ev.step (fun _ => by rw [puncheonlaw10_SpreadPlaces.j0]) ?_
    have e : rd q s = q.getD s.toNat 0 := rfl
    rw [e]
    refine ev_pos (by rw [decide_eq_true_iff]; exact h1) (ev_pos h0 (ev_pos (by omega) (ev_pos (by omega) (ev_pos h2 (ev_pos (by rw [wraps (by omega) (by omega)]; omega) (ev_pos rfl (ev_pos rfl ?_)))))))
    exact Ev.bind hr (ev_eq (Ev.now _) (by simp))
  · have hp := spreadPlace_no sq.N hL s i (by
      rintro x ⟨t, j, k1, k2, k3, rfl⟩ ⟨e1, e2⟩
      have e1 : (t : Int) = s := e1
      have e2 : j = i := e2
      subst e1; subst e2
      exact hk ⟨⟨by omega, by omega⟩, by rw [Int.toNat_natCast]; exact ⟨k2, k3⟩⟩)
    refine Ev.bind hp ?_
    have hend : Ev (fun n => puncheonlaw10_SpreadPlaces.j0 n s i true q 0 false false) true := by
      refine Ev.step (fun _ => by rw [puncheonlaw10_SpreadPlaces.j0]) ?_
      exact ev_neg (by decide) (ev_pos rfl (ev_pos rfl (Ev.now _)))
    by_cases h0 : s ≥ 0
    · refine ev_pos h0 ?_
      by_cases h1 : s ≤ 255
      · have hb := hN.bd s.toNat
        have hnn := hN.nn s.toNat
        refine Ev.step (fun _ => by rw [puncheonlaw10_SpreadPlaces.j0]) ?_
        have e : rd q s = q.getD s.toNat 0 := rfl
        rw [e]
        have hz : Ev (fun _ => some (!false)) true := Ev.now _
        refine ev_pos (by rw [decide_eq_true_iff]; exact h1) (ev_pos h0 (ev_pos (by omega) ?_))
        by_cases c1 : q.getD s.toNat 0 > 0
        · refine ev_pos c1 ?_
          by_cases c2 : i ≥ q.getD s.toNat 0
          · refine ev_pos c2 (ev_neg ?_ (ev_pos rfl (ev_pos rfl hz)))
            rw [wraps (by omega) (by omega)]
            exact fun c3 => hk ⟨⟨h0, h1⟩, c2, c3⟩
          · exact ev_neg c2 (ev_pos rfl (ev_pos rfl hz))
        · exact ev_neg c1 (ev_pos rfl (ev_pos rfl hz))
      · rw [decide_eq_false h1]; exact hend
    · exact ev_neg h0 hend
end Go.Proofs.Ytonicgihpjolmaa.Pure
