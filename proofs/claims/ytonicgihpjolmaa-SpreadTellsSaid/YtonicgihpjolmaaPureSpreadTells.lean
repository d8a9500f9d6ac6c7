/- The pure statement of SpreadTells. -/
import Derived.Test.YtonicgihpjolmaaPs
import Derived.Test.YtonicgihpjolmaaPPrx7
namespace Go.Proofs.Ytonicgihpjolmaa.Pure
open Go.RowKit Go.Proofs.Ytonicgihpjolmaa Go.Proofs.Ytonicgihpjolmaa.PPr Go.Proofs.YtonicgihpjolmaaW.PrintWords Go.Proofs.YtonicgihpjolmaaW.PrintLast Go.Proofs.YtonicgihpjolmaaW.PrintMore HK
theorem awake10 : Ev (fun k => puncheonlaw10_awake.f k) true := Ev.of (fun k => puncheonlaw10_awake.mono k) (k := 300) (by decide +kernel)
theorem rof_l2 {q : List Int} {L : List S} (h : OrdL q L) (hN : Nq q) (s : Nat) (hd : s < 256) (hnx : Ev (fun k => puncheonref10_Of.l1 k q (filK 0 (·.f2) L (s + 1) (q.getD (s + 1) 0)) ((s + 1 : Nat) : Int)) (symL L, 0)) : ∀ (e n : Nat), n + e = (q.getD s 0).toNat →
    Ev (fun k => puncheonref10_Of.l2 k q (filK 0 (·.f2) L s (q.getD s 0 + (n : Int))) (s : Int) (q.getD s 0 + (n : Int))) (symL L, 0)
  | 0, n, he => by
    have a1 := hN.len
    have a2 := hN.bd s
    have a3 := hN.nn s
    refine Ev.step (fun _ => by rw [puncheonref10_Of.l2]) ?_
    simp only [rd_nat]
    refine ev_pos (by omega) (ev_pos (by omega) (ev_neg (by rw [wraps (by omega) (by omega)]; omega) ?_))
    rw [show q.getD s 0 + (n : Int) = 2 * q.getD s 0 by omega, filK_next 0 _ h, wnext s (by omega)]
    exact hnx
  | e + 1, n, he => by
    have a1 := hN.len
    have a2 := hN.bd s
    have a3 := hN.nn s
    have ih := rof_l2 h hN s hd hnx e (n + 1) (by omega)
    have hx : IsKey q (key q s (q.getD s 0 + (n : Int))) := ⟨s, _, by omega, by omega, by omega, rfl⟩
    obtain ⟨p1, p2⟩ := h.s.there hN hx
    have hset := filK_set 0 (fun x : S => x.f2) h hN s (by omega) (q.getD s 0 + (n : Int)) (by omega) (by omega)
    have hp := rplace_ev hN s (by omega) (q.getD s 0 + (n : Int)) (by omega) (by omega)
    refine Ev.step (fun _ => by rw [puncheonref10_Of.l2]) ?_
    simp only [rd_nat]
    refine ev_pos (by omega) (ev_pos (by omega) (ev_pos (by rw [wraps (by omega) (by omega)]; omega) (Ev.bind hp (ev_pos (by omega) (ev_pos (by rw [filK_len]; omega) ?_)))))
    rw [Int.toNat_natCast, show (s : Int) % 256 = (s : Int) by omega, show wrap64 (q.getD s 0 + (n : Int) + 1) = q.getD s 0 + ((n + 1 : Nat) : Int) from w64' (by omega) (by omega) (by omega)]
    have hset : (filK 0 (·.f2) L s (q.getD s 0 + (n : Int))).set (placeZ q (key q s (q.getD s 0 + (n : Int)))) (s : Int) = filK 0 (·.f2) L s (q.getD s 0 + (n : Int) + 1) := hset
    rw [hset, show q.getD s 0 + (n : Int) + 1 = q.getD s 0 + ((n + 1 : Nat) : Int) by omega]
    exact ih
theorem rof_l1 {q : List Int} {L : List S} (h : OrdL q L) (hN : Nq q) : ∀ (d : Nat) (s : Nat), s + d = 256 →
    Ev (fun k => puncheonref10_Of.l1 k q (filK 0 (·.f2) L s (q.getD s 0)) (s : Int)) (symL L, 0)
  | 0, s, hd => by
    refine Ev.step (fun _ => by rw [puncheonref10_Of.l1]) ?_
    refine ev_neg (by omega) ?_
    rw [show s = 256 by omega, filK_end 0 _ h]
    exact Ev.now _
  | d + 1, s, hd => by
    have a1 := hN.len
    refine Ev.step (fun _ => by rw [puncheonref10_Of.l1]) ?_
    refine ev_pos (by omega) (ev_pos (by omega) (ev_pos (by omega) ?_))
    have := rof_l2 h hN s (by omega) (rof_l1 h hN d (s + 1) (by omega)) (q.getD s 0).toNat 0 (by omega)
    simp only [rd_nat]
    rw [show q.getD s 0 + ((0 : Nat) : Int) = q.getD s 0 by omega] at this
    exact this
theorem rof_l0 {q : List Int} {L : List S} (h : OrdL q L) (hN : Nq q) (hnn : ∀ x, x ∈ q → 0 ≤ x) : ∀ (d : Nat) (s : Nat), s + d = 256 →
    Ev (fun k => puncheonref10_Of.l0 k q (q.take s).sum (s : Int)) (symL L, 0)
  | 0, s, hd => by
    have a1 := hN.len
    have a4 := hN.sm
    have hL := h.len hN
    refine Ev.step (fun _ => by rw [puncheonref10_Of.l0]) ?_
    rw [List.take_of_length_le (by omega)]
    refine ev_neg (by omega) (ev_pos (by omega) (ev_pos (by omega) ?_))
    rw [show q.sum.toNat = L.length by omega, ← filK_start 0 (·.f2) h]
    exact rof_l1 h hN 256 0 (by omega)
  | d + 1, s, hd => by
    have a1 := hN.len
    have a4 := hN.sm
    have ih := rof_l0 h hN hnn d (s + 1) (by omega)
    have h1 := sum_take_le hnn (s + 1)
    have h2 := sum_nonneg (l := q.take (s + 1)) (fun x hx => hnn x (List.mem_of_mem_take hx))
    have e : (q.take s).sum + q.getD s 0 = (q.take (s + 1)).sum := by rw [take_snocE q s (by omega), List.sum_append]; simp
    refine Ev.step (fun _ => by rw [puncheonref10_Of.l0]) ?_
    simp only [rd_nat]
    rw [e, wnext s (by omega), wraps (by omega) (by omega)]
    exact ev_pos (by omega) (ev_pos (by omega) (ev_pos (by omega) ih))
theorem SpreadTells : puncheonlaw10_SpreadTells.Pure := by
  intro q hm hs hw
  refine ev_bool (b := true) ?_ rfl
  have hlm : q.length ≤ 4611686018427387000 := by omega
  obtain ⟨b, hb⟩ := few_ev q hlm
  unfold puncheonlaw10_SpreadTells.f
  refine Ev.bind awake10 (Ev.bind hb ?_)
  have hgo : ∀ b', Ev (fun k => puncheonlaw10_SpreadTells.j0 k q true b') true := by
    intro b'
    refine Ev.step (fun _ => by rw [puncheonlaw10_SpreadTells.j0]) ?_
    by_cases hb' : b' = true
    · exact ev_pos hb' (Ev.now _)
    refine ev_neg hb' ?_
    have hlast : Ev (fun k => (spread_Log.f k q).bind fun t192 => (puncheonref08_Log.f k q).bind fun t193 => some (t192 == t193)) true :=
      Ev.bind (spreadLog_ev q hlm) (Ev.bind (rlog_ev q hlm) (ev_eq (Ev.now _) (by simp)))
    rcases isN_or q with ⟨r, hq, he⟩ | he
    · obtain ⟨L, hL⟩ := ordL_ex hq.nq
      have hof : Ev (fun k => puncheonref10_Of.f k q) (symL L, 0) := by
        unfold puncheonref10_Of.f
        refine Ev.bind (rlog_ev q hlm) ?_
        rw [he]
        have := hq.r0
        refine ev_neg (by show ¬ (r : Int) = 0; omega) ?_
        exact rof_l0 hL hq.nq ((rightB_iff q).1 hq.R).2.1 256 0 (by omega)
      refine Ev.bind (spreadOf_ev hq hL) (Ev.bind hof (ev_pos rfl (ev_pos rfl ?_)))
      exact ev_obind (show puncheonref10_Same.f (symL L) (symL L) = some true by unfold puncheonref10_Same.f; simp) (ev_pos rfl hlast)
    · have hof : Ev (fun k => puncheonref10_Of.f k q) (([] : List Int), 1) := by
        unfold puncheonref10_Of.f
        refine Ev.bind (rlog_ev q hlm) ?_
        rw [he]
        exact ev_pos rfl (Ev.now _)
      refine Ev.bind (spreadOf_no hlm he) (Ev.bind hof (ev_pos rfl (ev_pos rfl ?_)))
      exact ev_obind (show puncheonref10_Same.f [] [] = some true by unfold puncheonref10_Same.f; simp) (ev_pos rfl hlast)
  by_cases hl : (q.length : Int) > 300
  · exact ev_pos hl (hgo _)
  · exact ev_neg hl (hgo _)
end Go.Proofs.Ytonicgihpjolmaa.Pure
