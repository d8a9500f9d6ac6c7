/- The pure statement of DtabTells. -/
import Derived.Test.YtjbpmlpmfbeobaaDt
import Derived.Test.YtjbpmlpmfbeobaaPPrx12
namespace Go.Proofs.Ytjbpmlpmfbeobaa.Pure
open Go.RowKit Go.Proofs.Ytjbpmlpmfbeobaa Go.Proofs.Ytjbpmlpmfbeobaa.PPr Go.Proofs.YtjbpmlpmfbeobaaW.PrintWords Go.Proofs.YtjbpmlpmfbeobaaW.PrintLast Go.Proofs.YtjbpmlpmfbeobaaW.PrintMore HK
theorem awake11 : Ev (fun k => puncheonlaw11_awake.f k) true := Ev.of (fun k => puncheonlaw11_awake.mono k) (k := 3000) (by decide +kernel)
theorem rfloor_from (x : Int) (hx : x ≤ 1099511627776) (F : Nat) (hF : F ≤ 41) (h0 : p2 F ≤ x) (h1 : x < p2 (F + 1)) : ∀ (d i : Nat), i + d = F → Ev (fun k => puncheonref07_Floor.l0 k x (i : Int) (p2 (i + 1))) (F : Int)
  | 0, i, hd => by
    obtain rfl : i = F := by omega
    refine Ev.step (fun _ => by rw [puncheonref07_Floor.l0]) ?_
    exact ev_neg (by omega) (Ev.now _)
  | d + 1, i, hd => by
    have h2 := p2_mono (show i + 1 ≤ F by omega)
    refine Ev.step (fun _ => by rw [puncheonref07_Floor.l0]) ?_
    refine ev_pos (by omega) (ev_pos (by omega) ?_)
    rw [wnext i (by omega), ← p2_succ, show wrap64 (p2 (i + 1 + 1)) = p2 (i + 1 + 1) from wraps (by have := p2_pos (i + 1 + 1); omega) (by rw [p2_succ]; omega)]
    exact rfloor_from x hx F hF h0 h1 d (i + 1) (by omega)
theorem rfloor_ev (x : Int) (h : 1 ≤ x) (hx : x ≤ 8192) : Ev (fun k => puncheonref07_Floor.f k x) (fll x) := by
  obtain ⟨a, b, _⟩ := fll_spec x h (by omega)
  have hf := fll_bd x
  unfold puncheonref07_Floor.f
  have := rfloor_from x (by omega) (fll x).toNat (by
    have := p2_lt (show p2 (fll x).toNat < p2 14 by have e : p2 14 = 16384 := by decide
                                                    omega)
    omega) a b (fll x).toNat 0 (by omega)
  rw [show (((fll x).toNat : Nat) : Int) = fll x by omega] at this
  exact this
theorem rof_l1 {q : List Int} {r : Nat} (hq : IsN q r) {L : List S} (h : OrdL q L) (s : Nat) (hd : s < 256) (hnx : Ev (fun k => puncheonref11_Of.l0 k q (r : Int) (p2 r) (filK zc (cellK r) L (s + 1) (q.getD (s + 1) 0)) ((s + 1 : Nat) : Int)) (celL r L, 0)) : ∀ (e n : Nat), n + e = (q.getD s 0).toNat →
    Ev (fun k => puncheonref11_Of.l1 k q (r : Int) (p2 r) (filK zc (cellK r) L s (q.getD s 0 + (n : Int))) (s : Int) (q.getD s 0 + (n : Int))) (celL r L, 0)
  | 0, n, he => by
    have hN := hq.nq
    have a1 := hN.len
    have a2 := hN.bd s
    have a3 := hN.nn s
    refine Ev.step (fun _ => by rw [puncheonref11_Of.l1]) ?_
    rw [rd_nat q s]
    refine ev_pos (by omega) (ev_pos (by omega) (ev_neg (by rw [wraps (by omega) (by omega)]; omega) ?_))
    rw [show q.getD s 0 + (n : Int) = 2 * q.getD s 0 by omega, filK_next zc _ h, wnext s (by omega)]
    exact hnx
  | e + 1, n, he => by
    have hN := hq.nq
    have a1 := hN.len
    have a2 := hN.bd s
    have a3 := hN.nn s
    have hr1 := hq.r1
    have ih := rof_l1 hq h s hd hnx e (n + 1) (by omega)
    have hx : IsKey q (key q s (q.getD s 0 + (n : Int))) := ⟨s, _, by omega, by omega, by omega, rfl⟩
    obtain ⟨b1, b2, b3, b4⟩ := hx.bds hq
    have b2 : q.getD s 0 ≤ p2 r := b2
    obtain ⟨p1, p2'⟩ := h.s.there hN hx
    have hset := filK_set zc (cellK r) h hN s (by omega) (q.getD s 0 + (n : Int)) (by omega) (by omega)
    have hp := rplace_ev hN s (by omega) (q.getD s 0 + (n : Int)) (by omega) (by omega)
    have hpr := p2_12 hr1
    obtain ⟨F, e1, f1, f2, f3, f4, f5⟩ := key_fll (r := r) (i := q.getD s 0 + (n : Int)) (by omega) (by omega) hr1
    obtain ⟨g1, g2, g3⟩ := cell_in (r := r) (i := q.getD s 0 + (n : Int)) (by omega) (by omega) hr1
    have ew : wrap64 ((r : Int) - fll (q.getD s 0 + (n : Int))) = (kb r (q.getD s 0 + (n : Int)) : Int) := by rw [e1, f5]; exact w64' (by omega) (by omega) (by omega)
    have hm : (q.getD s 0 + (n : Int)) * p2 (kb r (q.getD s 0 + (n : Int))) ≤ 8192 := by rw [Int.add_mul _ 1, Int.one_mul] at g2; have := p2_pos (kb r (q.getD s 0 + (n : Int))); omega
    have hk := p2_12 (show kb r (q.getD s 0 + (n : Int)) ≤ 12 by omega)
    have hk0 := p2_pos (kb r (q.getD s 0 + (n : Int)))
    have hp0 := p2_pos r
    refine Ev.step (fun _ => by rw [puncheonref11_Of.l1]) ?_
    rw [rd_nat q s]
    refine ev_pos (by omega) (ev_pos (by omega) (ev_pos (by rw [wraps (by omega) (by omega)]; omega) (Ev.bind (rfloor_ev _ (by omega) (by omega)) (Ev.bind hp ?_))))
    rw [ew]
    refine ev_pos (by omega) (ev_pos (by omega) (ev_pos (by rw [filK_len]; omega) ?_))
    rw [Int.toNat_natCast, show (s : Int) % 256 = (s : Int) by omega, show wrap64 (q.getD s 0 + (n : Int) + 1) = q.getD s 0 + ((n + 1 : Nat) : Int) from w64' (by omega) (by omega) (by omega), shl2 1 _ (by omega) (by omega) (by omega), Int.one_mul, wraps (x := (q.getD s 0 + (n : Int)) * p2 (kb r (q.getD s 0 + (n : Int)))) (by omega) (by omega), wraps (by omega) (by omega)]
    have hset : (filK zc (cellK r) L s (q.getD s 0 + (n : Int))).set (placeZ q (key q s (q.getD s 0 + (n : Int)))) ⟨(s : Int), (kb r (q.getD s 0 + (n : Int)) : Int), (q.getD s 0 + (n : Int)) * p2 (kb r (q.getD s 0 + (n : Int))) - p2 r⟩ = filK zc (cellK r) L s (q.getD s 0 + (n : Int) + 1) := hset
    rw [hset, show q.getD s 0 + (n : Int) + 1 = q.getD s 0 + ((n + 1 : Nat) : Int) by omega]
    exact ih
theorem rof_l0 {q : List Int} {r : Nat} (hq : IsN q r) {L : List S} (h : OrdL q L) : ∀ (d : Nat) (s : Nat), s + d = 256 →
    Ev (fun k => puncheonref11_Of.l0 k q (r : Int) (p2 r) (filK zc (cellK r) L s (q.getD s 0)) (s : Int)) (celL r L, 0)
  | 0, s, hd => by
    refine Ev.step (fun _ => by rw [puncheonref11_Of.l0]) ?_
    refine ev_neg (by omega) ?_
    rw [show s = 256 by omega, filK_end zc _ h]
    exact Ev.now _
  | d + 1, s, hd => by
    have a1 := hq.nq.len
    refine Ev.step (fun _ => by rw [puncheonref11_Of.l0]) ?_
    refine ev_pos (by omega) (ev_pos (by omega) (ev_pos (by omega) ?_))
    have := rof_l1 hq h s (by omega) (rof_l0 hq h d (s + 1) (by omega)) (q.getD s 0).toNat 0 (by omega)
    rw [rd_nat q s]
    rw [show q.getD s 0 + ((0 : Nat) : Int) = q.getD s 0 by omega] at this
    exact this
theorem same_from (C : List Cel) (hm : C.length ≤ 4096) : ∀ (d i : Nat), i + d = C.length → Ev (fun k => puncheonref11_Same.l0 k C C (i : Int)) true
  | 0, i, hd => by
    refine Ev.step (fun _ => by rw [puncheonref11_Same.l0]) ?_
    exact ev_neg (by omega) (Ev.now _)
  | d + 1, i, hd => by
    refine Ev.step (fun _ => by rw [puncheonref11_Same.l0]) ?_
    rw [wnext i (by omega)]
    refine ev_pos (by omega) (ev_pos (by omega) (ev_pos (by omega) (ev_neg (by simp) ?_)))
    exact same_from C hm d (i + 1) (by omega)
theorem same_ev (C : List Cel) (hm : C.length ≤ 4096) : Ev (fun k => puncheonref11_Same.f k C C) true := by
  unfold puncheonref11_Same.f
  exact ev_pos rfl (same_from C hm C.length 0 (by omega))
theorem DtabTells : puncheonlaw11_DtabTells.Pure := by
  intro q hm hs hw
  refine ev_bool (b := true) ?_ rfl
  have hlm : q.length ≤ 4611686018427387000 := by omega
  obtain ⟨b, hb⟩ := few_ev q hlm
  unfold puncheonlaw11_DtabTells.f
  refine Ev.bind awake11 (Ev.bind hb ?_)
  have hgo : ∀ b', Ev (fun k => puncheonlaw11_DtabTells.j0 k q true b') true := by
    intro b'
    refine Ev.step (fun _ => by rw [puncheonlaw11_DtabTells.j0]) ?_
    by_cases hb' : b' = true
    · exact ev_pos hb' (Ev.now _)
    refine ev_neg hb' ?_
    rcases isN_or q with ⟨r, hq, he⟩ | he
    · obtain ⟨L, hL⟩ := ordL_ex hq.nq
      have hl := hL.len hq.nq
      have hr0 := hq.r0
      have hr1 := hq.r1
      have hp := p2_12 hr1
      have hp0 := p2_pos r
      rw [hq.p2] at hl
      have hof : Ev (fun k => puncheonref11_Of.f k q) (celL r L, 0) := by
        unfold puncheonref11_Of.f
        refine Ev.bind (rlog_ev q hlm) ?_
        rw [he]
        dsimp only
        rw [shl2 1 r (by omega) hr1 (by omega), Int.one_mul]
        refine ev_neg (by omega) (ev_pos (by omega) (ev_pos (by omega) (ev_pos (by omega) ?_)))
        rw [show (p2 r).toNat = L.length by omega, ← filK_start zc (cellK r) hL]
        exact rof_l0 hq hL 256 0 (by omega)
      refine Ev.bind (dtabOf_ev hq hL) (Ev.bind hof (ev_pos rfl (ev_pos rfl (Ev.bind (same_ev _ (by show (celL r L).length ≤ 4096; rw [celL_len]; omega)) (Ev.now _)))))
    · have hof : Ev (fun k => puncheonref11_Of.f k q) (([] : List Cel), 1) := by
        unfold puncheonref11_Of.f
        refine Ev.bind (rlog_ev q hlm) ?_
        rw [he]
        exact ev_pos rfl (Ev.now _)
      refine Ev.bind (dtabOf_no hlm he) (Ev.bind hof (ev_pos rfl (ev_pos rfl (Ev.bind (same_ev _ (by simp)) (Ev.now _)))))
  by_cases hl : (q.length : Int) > 300
  · exact ev_pos hl (hgo _)
  · exact ev_neg hl (hgo _)
end Go.Proofs.Ytjbpmlpmfbeobaa.Pure
