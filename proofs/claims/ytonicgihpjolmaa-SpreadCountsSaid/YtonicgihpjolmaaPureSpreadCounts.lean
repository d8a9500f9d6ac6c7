/- The pure statement of SpreadCounts. -/
import Derived.Test.YtonicgihpjolmaaPs
import Derived.Test.YtonicgihpjolmaaPPrx12
namespace Go.Proofs.Ytonicgihpjolmaa.Pure
open Go.RowKit Go.Proofs.Ytonicgihpjolmaa Go.Proofs.Ytonicgihpjolmaa.PPr Go.Proofs.YtonicgihpjolmaaW.PrintWords Go.Proofs.YtonicgihpjolmaaW.PrintLast Go.Proofs.YtonicgihpjolmaaW.PrintMore HK
theorem awake10 : Ev (fun k => puncheonlaw10_awake.f k) true := Ev.of (fun k => puncheonlaw10_awake.mono k) (k := 300) (by decide +kernel)
theorem counts_l1 {q : List Int} {L : List S} (h : OrdL q L) (hN : Nq q) (hl : L.length ≤ 4096) (s : Nat) (hs : s < 256) (x : Int) (hx : q.getD s 0 > 32 ∨ x = 2 * q.getD s 0) : ∀ (d i : Nat), i + d = L.length →
    Ev (fun k => puncheonlaw10_SpreadCounts.l1 k (s : Int) true q (symL L) x (cntTo L (s : Int) i : Int) (i : Int)) true
  | 0, i, hd => by
    have a1 := hN.len
    have a2 := hN.bd s
    have a3 := hN.nn s
    have hc := cntTo_all h hN s hs
    refine Ev.step (fun _ => by rw [puncheonlaw10_SpreadCounts.l1]) ?_
    rw [symL_len, rd_nat q s, show i = L.length by omega]
    refine ev_neg (by omega) (ev_pos rfl (ev_pos (by omega) (ev_pos (by omega) (ev_pos hc ?_))))
    by_cases c : q.getD s 0 > 32
    · exact ev_pos c (Ev.now _)
    · refine ev_neg c (ev_eq (Ev.now _) ?_)
      rw [wraps (by omega) (by omega)]
      rw [beq_iff_eq]; omega
  | d + 1, i, hd => by
    have ih := counts_l1 h hN hl s hs x hx d (i + 1) (by omega)
    have hle := cntTo_le L (s : Int) i
    rw [cntTo_succ L _ i (by omega)] at ih
    refine Ev.step (fun _ => by rw [puncheonlaw10_SpreadCounts.l1]) ?_
    rw [symL_len, rd_nat (symL L) i, symL_get L i (by omega), wnext i (by omega), wnext _ (by omega)]
    refine ev_pos (by omega) (ev_pos (by omega) ?_)
    by_cases c : (L.getD i z).f2 = (s : Int)
    · rw [if_pos c] at ih; exact ev_pos c ih
    · rw [if_neg c] at ih; exact ev_neg c ih
theorem counts_l0 {q : List Int} {r : Nat} (hq : IsN q r) {L : List S} (h : OrdL q L) (hl : L.length ≤ 4096) (s : Nat) (hs : s < 256) (hsm : q.getD s 0 ≤ 32) : ∀ (d i : Nat), i + d = L.length →
    Ev (fun k => puncheonlaw10_SpreadCounts.l0 k (s : Int) true q (symL L) (q.getD s 0 + (cntTo L (s : Int) i : Int)) (i : Int)) true
  | 0, i, hd => by
    have hN := hq.nq
    have a1 := hN.len
    have hc := cntTo_all h hN s hs
    refine Ev.step (fun _ => by rw [puncheonlaw10_SpreadCounts.l0]) ?_
    rw [symL_len]
    refine ev_neg (by omega) ?_
    refine Ev.step (fun _ => by rw [puncheonlaw10_SpreadCounts.j2]) ?_
    refine ev_neg (by decide) ?_
    exact counts_l1 h hN hl s hs _ (.inr (by rw [show i = L.length by omega]; omega)) L.length 0 (by omega)
  | d + 1, i, hd => by
    have hN := hq.nq
    have a1 := hN.len
    have a2 := hN.bd s
    have a3 := hN.nn s
    have ih := counts_l0 hq h hl s hs hsm d (i + 1) (by omega)
    have hle := cntTo_le L (s : Int) i
    have hil : i < L.length := by omega
    rw [cntTo_succ L _ i (by omega)] at ih
    refine Ev.step (fun _ => by rw [puncheonlaw10_SpreadCounts.l0]) ?_
    rw [symL_len, rd_nat q s]
    refine ev_pos (by omega) (ev_pos (by omega) (ev_pos (by omega) ?_))
    rw [decide_eq_true hsm]
    refine Ev.step (fun _ => by rw [puncheonlaw10_SpreadCounts.j2]) ?_
    rw [symL_len, rd_nat (symL L) i, symL_get L i (by omega), wnext i (by omega)]
    refine ev_pos rfl (ev_pos (by omega) (ev_pos (by omega) ?_))
    by_cases c : (L.getD i z).f2 = (s : Int)
    · rw [if_pos c] at ih
      refine ev_pos c ?_
      have hk := h.key i (by omega)
      have hp := spreadPlace_ev hq h hk
      have hf := cntTo_key h hN i (by omega) s hs c
      rw [c, hf, h.s.place hN i (by omega)] at hp
      rw [wraps (x := (s : Int)) (by omega) (by omega)]
      refine Ev.bind hp (ev_pos rfl (ev_pos rfl ?_))
      rw [show wrap64 (q.getD s 0 + (cntTo L (s : Int) i : Int) + 1) = q.getD s 0 + ((cntTo L (s : Int) i + 1 : Nat) : Int) from w64' (by omega) (by omega) (by omega)]
      exact ih
    · rw [if_neg c] at ih; exact ev_neg c ih
theorem SpreadCounts : puncheonlaw10_SpreadCounts.Pure := by
  intro l a s hm hs hw ha hs1
  have ha := bounds_u8 ha
  have hs1 := bounds_u8 hs1
  obtain ⟨s, rfl⟩ : ∃ n : Nat, s = (n : Int) := ⟨s.toNat, by omega⟩
  refine ev_bool (b := true) ?_ rfl
  unfold puncheonlaw10_SpreadCounts.f
  refine Ev.bind awake10 ?_
  by_cases hb : (l.length : Int) > 80
  · exact ev_pos hb (Ev.now _)
  refine ev_neg hb ?_
  obtain ⟨q, k, hq, sq⟩ := someQ_ev l a hw ha.1 ha.2
  refine Ev.bind hq ?_
  dsimp only
  have hN := sq.N.nq
  obtain ⟨L, hL⟩ := ordL_ex hN
  have hl := hN.len
  have hLl := hL.len hN
  have hsm := hN.sm
  have hqs := sq.N.sm
  have hk0 := sq.k0
  have hk1 := sq.k1
  have a2 := hN.bd s
  have a3 := hN.nn s
  refine Ev.bind (spreadOf_ev sq.N hL) (ev_pos rfl (ev_pos (by omega) ?_))
  rw [symL_len, shlE 1 (k : Int) (by omega) (by omega) (by omega), Int.one_mul, Int.toNat_natCast, hLl, hqs, bne_self_eq_false]
  refine Ev.step (fun _ => by rw [puncheonlaw10_SpreadCounts.j0]) ?_
  refine ev_neg (by decide) (ev_pos (by omega) (ev_pos (by omega) ?_))
  rw [rd_nat q s]
  by_cases c : q.getD s 0 ≤ 32
  · have := counts_l0 sq.N hL (by omega) s (by omega) c L.length 0 (by omega)
    rw [show (cntTo L (s : Int) 0 : Int) = 0 from rfl, Int.add_zero] at this
    exact this
  · refine Ev.step (fun _ => by rw [puncheonlaw10_SpreadCounts.l0]) ?_
    rw [symL_len, rd_nat q s]
    have hp := getD_pos_take q hl ((rightB_iff q).1 sq.N.R).2.1 s
    have h1 := counts_l1 hL hN (by omega) s (by omega) (q.getD s 0) (.inl (by omega)) L.length 0 (by omega)
    refine ev_pos (by omega) (ev_pos (by omega) (ev_pos (by omega) ?_))
    rw [decide_eq_false c]
    refine Ev.step (fun _ => by rw [puncheonlaw10_SpreadCounts.j2]) ?_
    exact ev_neg (by decide) h1
end Go.Proofs.Ytonicgihpjolmaa.Pure
