/- The pure statement of DtabReaches. -/
import Derived.Test.YtjbpmlpmfbeobaaDt
import Derived.Test.YtjbpmlpmfbeobaaPPrx14
namespace Go.Proofs.Ytjbpmlpmfbeobaa.Pure
open Go.RowKit Go.Proofs.Ytjbpmlpmfbeobaa Go.Proofs.Ytjbpmlpmfbeobaa.PPr Go.Proofs.YtjbpmlpmfbeobaaW.PrintWords Go.Proofs.YtjbpmlpmfbeobaaW.PrintLast Go.Proofs.YtjbpmlpmfbeobaaW.PrintMore HK
theorem awake11 : Ev (fun k => puncheonlaw11_awake.f k) true := Ev.of (fun k => puncheonlaw11_awake.mono k) (k := 3000) (by decide +kernel)
open Classical in
noncomputable def hit (P : Prop) : Int := if P then 1 else 0
theorem hit_yes {P : Prop} (h : P) : hit P = 1 := if_pos h
theorem hit_no {P : Prop} (h : ¬ P) : hit P = 0 := if_neg h
theorem reaches_l0 {q : List Int} {r : Nat} (hq : IsN q r) {L : List S} (hL : OrdL q L) (s : Nat) (hs : s < 256) (w : Int) (w0 : 0 ≤ w) (w1 : w < p2 r) : ∀ (d i : Nat), i + d = L.length →
    Ev (fun k => puncheonlaw11_DtabReaches.l0 k (s : Int) true q (celL r L) w (hit (∃ j, j < i ∧ CovP (cellK r (L.getD j z)) (s : Int) w)) (i : Int)) true
  | 0, i, hd => by
    have a1 := hq.nq.len
    have a3 := hq.nq.nn s
    refine Ev.step (fun _ => by rw [puncheonlaw11_DtabReaches.l0]) ?_
    rw [celL_len, rd_nat q s]
    refine ev_neg (by omega) (ev_pos rfl (ev_pos (by omega) (ev_pos (by omega) ?_)))
    by_cases c : q.getD s 0 = 0
    · refine ev_pos c ?_
      rw [hit_no]
      · exact ev_pos rfl (Ev.now _)
      · rintro ⟨j, j1, j2⟩
        obtain ⟨t, i', k1, k2, k3, e⟩ := hL.key j (by omega)
        rw [cellK_cov, e] at j2
        have : (t : Int) = (s : Int) := j2.1
        obtain rfl : t = s := by omega
        omega
    · refine ev_neg c (ev_pos (by omega) ?_)
      rw [hit_yes]
      · exact Ev.now _
      · obtain ⟨j, j1, j2⟩ := cov_ex hq hL s hs (by omega) w w0 w1
        exact ⟨j, by omega, j2⟩
  | d + 1, i, hd => by
    have hi : i < L.length := by omega
    have hl := hL.len hq.nq
    rw [hq.p2] at hl
    have hp := p2_12 hq.r1
    have ih := reaches_l0 hq hL s hs w w0 w1 d (i + 1) (by omega)
    have hk := hL.key i hi
    obtain ⟨f1, f2, f3, f4⟩ := cellK_fit hq hk
    have hp0 := p2_pos (cellK r (L.getD i z)).f1.toNat
    have hcg := celL_get r L i hi
    have hiff : (∃ j, j < i + 1 ∧ CovP (cellK r (L.getD j z)) (s : Int) w) ↔ (∃ j, j < i ∧ CovP (cellK r (L.getD j z)) (s : Int) w) ∨ CovP (cellK r (L.getD i z)) (s : Int) w := by
      constructor
      · rintro ⟨j, j1, j2⟩
        by_cases c : j = i
        · subst c; exact .inr j2
        · exact .inl ⟨j, by omega, j2⟩
      · rintro (⟨j, j1, j2⟩ | h)
        · exact ⟨j, by omega, j2⟩
        · exact ⟨i, by omega, h⟩
    refine Ev.step (fun _ => by rw [puncheonlaw11_DtabReaches.l0]) ?_
    rw [celL_len, rdC_nat, hcg, wraps (x := w - (cellK r (L.getD i z)).f2) (by omega) (by omega)]
    refine ev_pos (by omega) (ev_pos (by omega) ?_)
    have hskip : ¬ CovP (cellK r (L.getD i z)) (s : Int) w → Ev (fun k => puncheonlaw11_DtabReaches.l0 k (s : Int) true q (celL r L) w (hit (∃ j, j < i ∧ CovP (cellK r (L.getD j z)) (s : Int) w)) (wrap64 ((i : Int) + 1))) true := by
      intro hno
      rw [wnext i (by omega)]
      have e : hit (∃ j, j < i + 1 ∧ CovP (cellK r (L.getD j z)) (s : Int) w) = (hit (∃ j, j < i ∧ CovP (cellK r (L.getD j z)) (s : Int) w)) := by
        by_cases c : ∃ j, j < i ∧ CovP (cellK r (L.getD j z)) (s : Int) w
        · rw [hit_yes c, hit_yes (hiff.2 (.inl c))]
        · rw [hit_no c, hit_no (fun h => (hiff.1 h).elim c hno)]
      rw [e] at ih
      exact ih
    by_cases c1 : (cellK r (L.getD i z)).f0 = (s : Int)
    · refine ev_pos c1 ?_
      refine Ev.step (fun _ => by rw [puncheonlaw11_DtabReaches.j2]) ?_
      by_cases c2 : w - (cellK r (L.getD i z)).f2 < 0
      · rw [decide_eq_true c2]
        exact ev_pos rfl (hskip (by unfold CovP; omega))
      · rw [decide_eq_false c2, show (w - (cellK r (L.getD i z)).f2) % 4294967296 = w - (cellK r (L.getD i z)).f2 by omega]
        refine ev_neg (by decide) ?_
        by_cases c3 : w - (cellK r (L.getD i z)).f2 < p2 (cellK r (L.getD i z)).f1.toNat
        · have hst := step_yes (celL r L) i (w - (cellK r (L.getD i z)).f2) (by rw [celL_len]; exact hi) (by omega) (by rw [hcg]; omega) (by rw [hcg]; exact c3) (by rw [hcg]; omega)
          rw [hcg] at hst
          have hcov : CovP (cellK r (L.getD i z)) (s : Int) w := ⟨c1, by omega, by omega⟩
          have hnone : ¬ ∃ j, j < i ∧ CovP (cellK r (L.getD j z)) (s : Int) w := by
            rintro ⟨j, j1, j2⟩
            have := cov_one hq hL (show j < L.length by omega) hi j2 hcov
            omega
          rw [hit_yes (hiff.2 (.inr hcov))] at ih
          rw [hit_no hnone]
          refine ev_obind hst (ev_pos rfl (ev_pos c1 (ev_pos (by dsimp only; omega) ?_)))
          rw [wnext i (by omega), show wrap64 (0 + 1) = 1 from wraps (by decide) (by decide)]
          exact ih
        · have hst := step_no (celL r L) i (w - (cellK r (L.getD i z)).f2) (by rw [celL_len]; exact hi) (by omega) (by rw [hcg]; omega) (by rw [hcg]; exact c3)
          exact ev_obind hst (ev_neg (by decide) (hskip (by unfold CovP; omega)))
    · refine ev_neg c1 ?_
      refine Ev.step (fun _ => by rw [puncheonlaw11_DtabReaches.j2]) ?_
      exact ev_pos rfl (hskip (fun h => c1 h.1))
theorem DtabReaches : puncheonlaw11_DtabReaches.Pure := by
  intro l a s x hm hs hw ha hs1 hx
  have ha := bounds_u8 ha
  have hs1 := bounds_u8 hs1
  have hx := bounds_u16 hx
  obtain ⟨s, rfl⟩ : ∃ n : Nat, s = (n : Int) := ⟨s.toNat, by omega⟩
  refine ev_bool (b := true) ?_ rfl
  unfold puncheonlaw11_DtabReaches.f
  refine Ev.bind awake11 ?_
  by_cases hb : (l.length : Int) > 80
  · exact ev_pos hb (Ev.now _)
  refine ev_neg hb ?_
  obtain ⟨q, k, hq, sq⟩ := someQ_ev l a hw ha.1 ha.2
  refine Ev.bind hq ?_
  dsimp only
  have hN := sq.N.nq
  obtain ⟨L, hL⟩ := ordL_ex hN
  have hl := hL.len hN
  rw [sq.N.p2] at hl
  have hk0 := sq.k0
  have hk1 := sq.k1
  have hp0 := p2_pos k
  have hp := p2_12 sq.N.r1
  refine Ev.bind (dtabOf_ev sq.N hL) (ev_pos rfl (ev_pos (by omega) ?_))
  dsimp only
  rw [celL_len, shl2 1 k (by omega) (by omega) (by omega), Int.one_mul, hl, bne_self_eq_false]
  refine Ev.step (fun _ => by rw [puncheonlaw11_DtabReaches.j0]) ?_
  rw [celL_len, hl, wraps (x := x) (by omega) (by omega), Int.tmod_eq_emod_of_nonneg hx.1]
  have h1 := Int.emod_nonneg x (show p2 k ≠ 0 by omega)
  have h2 := Int.emod_lt_of_pos x (show 0 < p2 k by omega)
  refine ev_neg (by decide) (ev_neg (by omega) ?_)
  have := reaches_l0 sq.N hL s (by omega) (x % p2 k) h1 h2 L.length 0 (by omega)
  rw [hit_no (fun ⟨j, hj, _⟩ => by omega)] at this
  exact this
end Go.Proofs.Ytjbpmlpmfbeobaa.Pure
