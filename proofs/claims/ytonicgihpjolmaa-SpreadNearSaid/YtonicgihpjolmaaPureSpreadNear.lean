/- The pure statement of SpreadNear. -/
import Derived.Test.YtonicgihpjolmaaPs
import Derived.Test.YtonicgihpjolmaaPPrx13
namespace Go.Proofs.Ytonicgihpjolmaa.Pure
open Go.RowKit Go.Proofs.Ytonicgihpjolmaa Go.Proofs.Ytonicgihpjolmaa.PPr Go.Proofs.YtonicgihpjolmaaW.PrintWords Go.Proofs.YtonicgihpjolmaaW.PrintLast Go.Proofs.YtonicgihpjolmaaW.PrintMore HK
theorem awake10 : Ev (fun k => puncheonlaw10_awake.f k) true := Ev.of (fun k => puncheonlaw10_awake.mono k) (k := 300) (by decide +kernel)
theorem near_l0 {q : List Int} {r : Nat} (hq : IsN q r) {L : List S} (h : OrdL q L) (s : Nat) (hs : s < 256) (n : Int) (hn0 : 0 ≤ n) (hn1 : n ≤ 65535) : ∀ (d t : Nat), t + d = 256 →
    Ev (fun k => puncheonlaw10_SpreadNear.l0 k (s : Int) n true q (q.sum) (haveTo q t : Int) (t : Int)) true
  | 0, t, hd => by
    have hN := hq.nq
    have a1 := hN.len
    have a2 := hN.bd s
    have a3 := hN.nn s
    have a4 := hN.sm
    have a5 := hq.sm
    have a6 := pow_nat r hq.r0 hq.r1
    refine Ev.step (fun _ => by rw [puncheonlaw10_SpreadNear.l0]) ?_
    rw [rd_nat q s, show t = 256 by omega]
    refine ev_neg (by omega) (ev_pos (by omega) (ev_pos (by omega) ?_))
    by_cases c : q.getD s 0 = 0
    · exact ev_pos c (Ev.now _)
    refine ev_neg c ?_
    have e1 : wrap64 (q.getD s 0 + Int.tmod (wrap64 n) (q.getD s 0)) = q.getD s 0 + n % q.getD s 0 := by
      rw [wraps (x := n) (by omega) (by omega), Int.tmod_eq_emod_of_nonneg hn0]
      have := Int.emod_lt_of_pos n (show 0 < q.getD s 0 by omega)
      have := Int.emod_nonneg n (show q.getD s 0 ≠ 0 by omega)
      exact wraps (by omega) (by omega)
    have hm0 := Int.emod_nonneg n (show q.getD s 0 ≠ 0 by omega)
    have hm1 := Int.emod_lt_of_pos n (show 0 < q.getD s 0 by omega)
    rw [e1]
    obtain ⟨i, hi, h0, h1⟩ : ∃ i, q.getD s 0 + n % q.getD s 0 = i ∧ q.getD s 0 ≤ i ∧ i < 2 * q.getD s 0 := ⟨_, rfl, by omega, by omega⟩
    rw [hi]
    have hx : IsKey q (key q s i) := ⟨s, i, hs, h0, h1, rfl⟩
    have hp := spreadPlace_ev hq h hx
    rw [show (key q s i).f2 = (s : Int) from rfl, show (key q s i).f0 = i from rfl] at hp
    obtain ⟨n1, n2⟩ := place_near hN s hs i h0 h1
    have hpl := (h.s.there hN hx).1
    have hLl := h.len hN
    have hle := haveTo_le q 256
    rw [wraps (x := (s : Int)) (by omega) (by omega)]
    refine Ev.bind hp (ev_pos rfl (ev_pos rfl ?_))
    generalize placeZ q (key q s i) = p at n1 n2 hpl
    have b1 := prod_bd (a := q.sum + (p : Int)) (b := q.getD s 0) (by omega) (by omega) a3 a2
    have b2 := prod_bd (a := i) (b := q.sum) (by omega) (by omega) (by omega) a4
    have b3 := prod_bd (a := (haveTo q 256 : Int)) (b := q.getD s 0) (by omega) (by omega) a3 a2
    have e3 : ((haveTo q 256 : Int) - 1) * q.getD s 0 = (haveTo q 256 : Int) * q.getD s 0 - q.getD s 0 := by rw [Int.sub_mul, Int.one_mul]
    rw [wraps (x := q.sum + (p : Int)) (by omega) (by omega), wraps (x := (haveTo q 256 : Int) - 1) (by omega) (by omega), wraps (x := i * q.sum) (by omega) (by omega), wraps (x := (q.sum + (p : Int)) * q.getD s 0) (by omega) (by omega), e3, wraps (x := (haveTo q 256 : Int) * q.getD s 0 - q.getD s 0) (by omega) (by omega), wraps (by omega) (by omega)]
    refine ev_pos (by omega) (ev_eq (Ev.now _) ?_)
    rw [decide_eq_true_iff]; omega
  | d + 1, t, hd => by
    have hN := hq.nq
    have a1 := hN.len
    have ih := near_l0 hq h s hs n hn0 hn1 d (t + 1) (by omega)
    have hle := haveTo_le q t
    rw [haveTo_succ] at ih
    refine Ev.step (fun _ => by rw [puncheonlaw10_SpreadNear.l0]) ?_
    rw [rd_nat q t, wnext t (by omega), wnext (haveTo q t) (by omega)]
    refine ev_pos (by omega) (ev_pos (by omega) (ev_pos (by omega) ?_))
    by_cases c : q.getD t 0 > 0
    · rw [if_pos c] at ih; exact ev_pos c ih
    · rw [if_neg c] at ih; exact ev_neg c ih
theorem SpreadNear : puncheonlaw10_SpreadNear.Pure := by
  intro l a s n hm hs hw ha hs1 hn
  have ha := bounds_u8 ha
  have hs1 := bounds_u8 hs1
  have hn := bounds_u16 hn
  obtain ⟨s, rfl⟩ : ∃ n : Nat, s = (n : Int) := ⟨s.toNat, by omega⟩
  refine ev_bool (b := true) ?_ rfl
  unfold puncheonlaw10_SpreadNear.f
  refine Ev.bind awake10 ?_
  by_cases hb : (l.length : Int) > 80
  · exact ev_pos hb (Ev.now _)
  refine ev_neg hb ?_
  obtain ⟨q, k, hq, sq⟩ := someQ_ev l a hw ha.1 ha.2
  refine Ev.bind hq ?_
  dsimp only
  obtain ⟨L, hL⟩ := ordL_ex sq.N.nq
  have hk0 := sq.k0
  have hk1 := sq.k1
  refine ev_pos (by omega) ?_
  have := near_l0 sq.N hL s (by omega) n hn.1 hn.2 256 0 (by omega)
  rw [shlE 1 (k : Int) (by omega) (by omega) (by omega), Int.one_mul, Int.toNat_natCast, ← sq.N.sm]
  exact this
end Go.Proofs.Ytonicgihpjolmaa.Pure
