/- The pure statement of DtabBits. -/
import Derived.Test.YtjbpmlpmfbeobaaDt
import Derived.Test.YtjbpmlpmfbeobaaPPrx15
namespace Go.Proofs.Ytjbpmlpmfbeobaa.Pure
open Go.RowKit Go.Proofs.Ytjbpmlpmfbeobaa Go.Proofs.Ytjbpmlpmfbeobaa.PPr Go.Proofs.YtjbpmlpmfbeobaaW.PrintWords Go.Proofs.YtjbpmlpmfbeobaaW.PrintLast Go.Proofs.YtjbpmlpmfbeobaaW.PrintMore HK
theorem awake11 : Ev (fun k => puncheonlaw11_awake.f k) true := Ev.of (fun k => puncheonlaw11_awake.mono k) (k := 3000) (by decide +kernel)
theorem bits_of {q : List Int} {r : Nat} (hq : IsN q r) {x : S} (hx : IsKey q x) : ∃ K : Nat, KeyLog r K x.f1 x.f0 ∧ fll x.f1 = (K : Int) ∧ (((cellK r x).f1 = (r : Int) - K) ∨ ((cellK r x).f1 = (r : Int) - K - 1)) := by
  obtain ⟨a1, a2, a3, a4⟩ := hx.bds hq
  have L := keyLog a1 a2 hq.r1 a3 a4
  have hf := fll_bd x.f1
  refine ⟨(fll x.f1).toNat, L, by omega, ?_⟩
  have hK := L.Kr
  unfold cellK kb
  dsimp only
  rcases L.or with ⟨c, _⟩ | ⟨c, _, c'⟩
  · left; rw [c]; omega
  · right; rw [c]; omega
theorem DtabBits : puncheonlaw11_DtabBits.Pure := by
  intro l a u v hm hs hw ha hu hv
  have ha := bounds_u8 ha
  have hu := bounds_u16 hu
  have hv := bounds_u16 hv
  refine ev_bool (b := true) ?_ rfl
  unfold puncheonlaw11_DtabBits.f
  refine Ev.bind awake11 ?_
  by_cases hb : (l.length : Int) > 80
  · exact ev_pos hb (Ev.now _)
  refine ev_neg hb ?_
  obtain ⟨q, k, hq, sq⟩ := someQ_ev l a hw ha.1 ha.2
  refine Ev.bind hq ?_
  dsimp only
  have hN := sq.N.nq
  have hql := hN.len
  obtain ⟨L, hL⟩ := ordL_ex hN
  have hl := hL.len hN
  rw [sq.N.p2] at hl
  have hk0 := sq.k0
  have hk1 := sq.k1
  have hp0 := p2_pos k
  have hp := p2_12 sq.N.r1
  refine Ev.bind (dtabOf_ev sq.N hL) (ev_pos rfl (ev_pos (by omega) ?_))
  dsimp only
  rw [celL_len, shl2 1 k (by omega) (by omega) (by omega), Int.one_mul, hl, bne_self_eq_false]
  refine Ev.step (fun _ => by rw [puncheonlaw11_DtabBits.j0]) ?_
  rw [celL_len, hl, wraps (x := u) (by omega) (by omega), wraps (x := v) (by omega) (by omega), Int.tmod_eq_emod_of_nonneg hu.1, Int.tmod_eq_emod_of_nonneg hv.1]
  have u1 := Int.emod_nonneg u (show p2 k ≠ 0 by omega)
  have u2 := Int.emod_lt_of_pos u (show 0 < p2 k by omega)
  have v1 := Int.emod_nonneg v (show p2 k ≠ 0 by omega)
  have v2 := Int.emod_lt_of_pos v (show 0 < p2 k by omega)
  obtain ⟨i, hi⟩ : ∃ i : Nat, u % p2 k = (i : Int) := ⟨(u % p2 k).toNat, by omega⟩
  obtain ⟨j, hj⟩ : ∃ j : Nat, v % p2 k = (j : Int) := ⟨(v % p2 k).toNat, by omega⟩
  rw [hi, hj]
  have hi' : i < L.length := by omega
  have hj' : j < L.length := by omega
  rw [rdC_nat, rdC_nat, celL_get k L i hi', celL_get k L j hj']
  have hki := hL.key i hi'
  have hkj := hL.key j hj'
  generalize L.getD i z = x at hki
  generalize L.getD j z = y at hkj
  obtain ⟨K, LK, eK, bK⟩ := bits_of sq.N hki
  obtain ⟨M, LM, eM, bM⟩ := bits_of sq.N hkj
  obtain ⟨f1, f2, f3, f4⟩ := cellK_fit sq.N hki
  obtain ⟨g1, g2, g3, g4⟩ := cellK_fit sq.N hkj
  have hx0 : (cellK k x).f0 = x.f2 := rfl
  have hy0 : (cellK k y).f0 = y.f2 := rfl
  have hsx := hki.sym
  have hsy := hkj.sym
  have hcx : q.getD x.f2.toNat 0 = x.f1 := by obtain ⟨t, i', k1, k2, k3, rfl⟩ := hki; rfl
  have hcy : q.getD y.f2.toNat 0 = y.f1 := by obtain ⟨t, i', k1, k2, k3, rfl⟩ := hkj; rfl
  have hsame : x.f2 = y.f2 → K = M := by
    intro e
    have := hki.same hkj e
    rw [this] at eK
    omega
  have hmono : y.f1 ≤ x.f1 → M ≤ K := by
    intro h
    have := fll_mono h (by have := (hki.bds sq.N).2.1; omega)
    omega
  have hKr := LK.Kr
  have hMr := LM.Kr
  have hpx := p2_pos (cellK k x).f1.toNat
  have esh : shl .i64 1 (cellK k x).f1 = p2 (cellK k x).f1.toNat := by
    have := shl2 1 (cellK k x).f1.toNat (by omega) (by omega) (by omega)
    rw [Int.one_mul, show (((cellK k x).f1.toNat : Nat) : Int) = (cellK k x).f1 by omega] at this
    exact this
  have rx : rd q (cellK k x).f0 = x.f1 := hcx
  have ry : rd q (cellK k y).f0 = y.f1 := hcy
  rw [rx, ry, esh]
  generalize cellK k x = c at *
  generalize cellK k y = d at *
  rw [wraps (x := c.f1 - d.f1) (by omega) (by omega), wraps (x := c.f2 + p2 c.f1.toNat) (by omega) (by omega), wraps (x := d.f1 + 1) (by omega) (by omega)]
  have hend : Ev (fun _ => some (decide (c.f2 + p2 c.f1.toNat ≤ p2 k))) true := ev_eq (Ev.now _) (by rw [decide_eq_true_iff]; omega)
  have htail : Ev (fun n => if true = true then (if 0 ≤ c.f0 then (if c.f0 < (q.length : Int) then (if 0 ≤ d.f0 then (if d.f0 < (q.length : Int) then (if x.f1 < y.f1 then (if c.f2 ≥ 0 then (if 0 ≤ c.f1 then some (decide (c.f2 + p2 c.f1.toNat ≤ p2 k)) else none) else some false) else (if c.f1 ≤ d.f1 + 1 then (if c.f2 ≥ 0 then (if 0 ≤ c.f1 then some (decide (c.f2 + p2 c.f1.toNat ≤ p2 k)) else none) else some false) else some false)) else none) else none) else none) else none) else some false) true := by
    refine ev_pos rfl (ev_pos (by omega) (ev_pos (by omega) (ev_pos (by omega) (ev_pos (by omega) ?_))))
    by_cases h : x.f1 < y.f1
    · exact ev_pos h (ev_pos (by omega) (ev_pos (by omega) hend))
    · have := hmono (by omega)
      exact ev_neg h (ev_pos (by omega) (ev_pos (by omega) (ev_pos (by omega) hend)))
  refine ev_neg (by decide) (ev_neg (by omega) (ev_pos (by omega) (ev_pos (by omega) (ev_pos (by omega) (ev_pos (by omega) ?_)))))
  by_cases h : c.f0 = d.f0
  · have := hsame (by omega)
    exact ev_pos h (ev_neg (by omega) htail)
  · exact ev_neg h htail
end Go.Proofs.Ytjbpmlpmfbeobaa.Pure
