/- The layer etab in plain numbers: places of a symbol's keys, how many bits go, the reference's step. -/
import Derived.Test.YtjgmilkgklellaaEt
import Derived.Test.YtjgmilkgklellaaDt
import Derived.Test.YtjgmilkgklellaaPPrx5
import Derived.Test.YtjgmilkgklellaaPPrx12
import Derived.Test.YtjgmilkgklellaaPPrx12
namespace Go.Proofs.Ytjgmilkgklellaa
open Go.RowKit Go.Proofs.YtjgmilkgklellaaW.PrintWords Go.Proofs.YtjgmilkgklellaaW.PrintLast Go.Proofs.YtjgmilkgklellaaW.PrintMore PPr HK
set_option linter.unusedSimpArgs false
set_option linter.unusedVariables false
theorem plc_cnt (L : List S) (s : Int) : ∀ i, i ≤ L.length → (plcTo (symL L) s i).length = cntTo L s i
  | 0, _ => by simp [plcTo, cntTo]
  | i + 1, h => by
    rw [plcTo_succ, List.length_append, plc_cnt L s i (by omega), cntTo_succ L s i (by omega), symL_get L i (by omega)]
    split <;> rfl
theorem plc_all {q : List Int} {L : List S} (h : OrdL q L) (hN : Nq q) (s : Nat) (hs : s < 256) : ((plcTo (symL L) (s : Int) (symL L).length).length : Int) = q.getD s 0 := by
  rw [symL_len, plc_cnt L _ _ (Nat.le_refl _)]
  exact cntTo_all h hN s hs
theorem plc_key {q : List Int} {L : List S} (h : OrdL q L) (hN : Nq q) (s : Nat) (hs : s < 256) (i : Int) (h0 : q.getD s 0 ≤ i) (h1 : i < 2 * q.getD s 0) (j : Nat) (hj : i = q.getD s 0 + (j : Int)) : (plcTo (symL L) (s : Int) (symL L).length).getD j 0 = (placeZ q (key q s i) : Int) := by
  obtain ⟨p1, p2⟩ := h.s.there hN ⟨s, i, hs, h0, h1, rfl⟩
  have e := cntTo_key h hN (placeZ q (key q s i)) p1 s hs (by rw [p2]; rfl)
  rw [p2] at e
  have e : i = q.getD s 0 + (cntTo L (s : Int) (placeZ q (key q s i)) : Int) := e
  have hlen := plc_cnt L (s : Int) (placeZ q (key q s i)) (by omega)
  have := plcTo_at (symL L) (s : Int) (placeZ q (key q s i)) (symL L).length (by rw [symL_len]; exact p1) (by rw [symL_get L _ p1, p2]; rfl)
  rw [hlen, show cntTo L (s : Int) (placeZ q (key q s i)) = j by omega] at this
  exact this
/-! how many bits go -/
theorem half_p2 (W : Int) (m : Nat) : W / p2 (m + 1) = W / p2 m / 2 := by
  rw [p2_succ, Int.mul_comm, Int.ediv_ediv_of_nonneg (by have := p2_pos m; omega)]
theorem halves_le (W : Int) (hW : 0 ≤ W) (m : Nat) : ∀ d, (W / p2 (m + d)) ≤ W / p2 m
  | 0 => Int.le_refl _
  | d + 1 => by
    have ih := halves_le W hW m d
    rw [show m + (d + 1) = m + d + 1 by omega, half_p2]
    have : 0 ≤ W / p2 (m + d) := Int.ediv_nonneg hW (by have := p2_pos (m + d); omega)
    omega
theorem halves_one {W n : Int} (hW : 0 ≤ W) {a b : Nat} (ha0 : n ≤ W / p2 a) (ha1 : W / p2 a < 2 * n) (hb0 : n ≤ W / p2 b) (hb1 : W / p2 b < 2 * n) : a = b := by
  have one : ∀ a b : Nat, a < b → n ≤ W / p2 b → W / p2 a < 2 * n → False := by
    intro a b hab h0 h1
    obtain ⟨d, rfl⟩ : ∃ d, b = a + 1 + d := ⟨b - (a + 1), by omega⟩
    have h2 := halves_le W hW (a + 1) d
    rw [half_p2] at h2
    omega
  rcases Nat.lt_trichotomy a b with h | h | h
  · exact (one a b h hb0 ha1).elim
  · exact h
  · exact (one b a h ha0 hb1).elim
theorem shrE (W : Int) (d : Nat) (hd : d ≤ 60) : shr .i64 W (d : Int) = W / p2 d := by
  unfold shr
  rw [Nat.min_eq_left (show (d : Int).toNat ≤ IntKind.i64.bits by show (d : Int).toNat ≤ 64; omega), Int.toNat_natCast, pow_p2]
theorem without_ex {r : Nat} {n W : Int} (h0 : 1 ≤ n) (h1 : n ≤ p2 r) (hr : r ≤ 12) (hW0 : p2 r ≤ W) (hW1 : W < 2 * p2 r) : ∃ N : Nat, N ≤ r ∧ etab_size_without.f W n = some (N : Int) ∧ n ≤ W / p2 N ∧ W / p2 N < 2 * n := by
  have hb := p2_12 hr
  obtain ⟨a0, a1, _⟩ := fll_spec W (by omega) (by omega)
  obtain ⟨b0, b1, _⟩ := fll_spec n h0 (by omega)
  have fa := fll_bd W
  have fb := fll_bd n
  obtain ⟨A, hA⟩ : ∃ A : Nat, fll W = (A : Int) := ⟨(fll W).toNat, by omega⟩
  obtain ⟨B, hB⟩ : ∃ B : Nat, fll n = (B : Int) := ⟨(fll n).toNat, by omega⟩
  rw [hA, Int.toNat_natCast] at a0 a1
  rw [hB, Int.toNat_natCast] at b0 b1
  have hAr : A = r := by
    have e1 := p2_lt (show p2 A < p2 (r + 1) by rw [p2_succ]; omega)
    have e2 := p2_lt (show p2 r < p2 (A + 1) by omega)
    omega
  have hBA : B ≤ A := by
    have := p2_lt (show p2 B < p2 (A + 1) by omega)
    omega
  obtain ⟨d, rfl⟩ : ∃ d, A = B + d := ⟨A - B, by omega⟩
  have hp0 := p2_pos d
  have e1 : p2 B ≤ W / p2 d := by
    rw [Int.le_ediv_iff_mul_le (by omega), ← p2_add]; exact a0
  have e2 : W / p2 d < 2 * p2 B := by
    rw [Int.ediv_lt_iff_lt_mul (by omega), Int.mul_assoc, ← p2_add, ← p2_succ]; exact a1
  rw [p2_succ] at b1
  have hs := shrE W d (by omega)
  have hf : etab_size_without.f W n = (if 0 ≤ (d : Int) then (if W / p2 d ≥ 2 * n then (some (wrap64 ((d : Int) + 1))) else (if W / p2 d < n then (some (wrap64 ((d : Int) - 1))) else (some (d : Int)))) else none) := by
    unfold etab_size_without.f
    rw [floorF W (by omega) (by omega), floorF n (by omega) (by omega), hA, hB]
    simp only [Option.bind_some]
    rw [show wrap64 (((B + d : Nat) : Int) - (B : Int)) = (d : Int) from w64' (by omega) (by omega) (by omega), hs, show wrap64 (2 * n) = 2 * n from w64' rfl (by omega) (by omega)]
  rw [hf, if_pos (by omega), if_neg (by omega)]
  by_cases c : W / p2 d < n
  · rw [if_pos c]
    rcases Nat.eq_zero_or_pos d with hd | hd
    · subst hd
      rw [p2_0] at c
      simp at c
      omega
    · obtain ⟨e, rfl⟩ : ∃ e, d = e + 1 := ⟨d - 1, by omega⟩
      have e3 := half_p2 W e
      refine ⟨e, by omega, ?_, by omega, by omega⟩
      rw [show wrap64 (((e + 1 : Nat) : Int) - 1) = (e : Int) from w64' (by omega) (by omega) (by omega)]
  · rw [if_neg c]
    exact ⟨d, by omega, rfl, by omega, by omega⟩
/-- a state's way by a symbol: the key, the bits, what is left over -/
structure Way (q : List Int) (r : Nat) (s : Nat) (x : Int) (N : Nat) (i : Int) : Prop where
  Nr : N ≤ r
  f : etab_size_without.f (p2 r + x) (q.getD s 0) = some (N : Int)
  i0 : q.getD s 0 ≤ i
  i1 : i < 2 * q.getD s 0
  d : (p2 r + x) / p2 N = i
theorem way_ex {q : List Int} {r : Nat} (hq : IsN q r) (s : Nat) (h0 : 0 < q.getD s 0) (x : Int) (x0 : 0 ≤ x) (x1 : x < p2 r) : ∃ (N : Nat) (i : Int), Way q r s x N i := by
  have hs := hq.nq.bd s
  have hsm := hq.p2
  obtain ⟨N, h1, h2, h3, h4⟩ := without_ex (r := r) (n := q.getD s 0) (W := p2 r + x) (by omega) (by rw [← hsm]; exact (getD_pos_take q hq.nq.len (((rightB_iff q).1 hq.R).2.1) s).2) hq.r1 (by omega) (by omega)
  exact ⟨N, _, h1, h2, h3, h4, rfl⟩
theorem Way.one {q : List Int} {r s : Nat} {x : Int} {N M : Nat} {i : Int} (h : Way q r s x N i) (x0 : 0 ≤ p2 r + x) (m0 : q.getD s 0 ≤ (p2 r + x) / p2 M) (m1 : (p2 r + x) / p2 M < 2 * q.getD s 0) : M = N := by
  refine halves_one x0 m0 m1 (by rw [h.d]; exact h.i0) (by rw [h.d]; exact h.i1)
theorem Way.key {q : List Int} {r s : Nat} {x : Int} {N : Nat} {i : Int} (hs : s < 256) (h : Way q r s x N i) : IsKey q (key q s i) := ⟨s, i, hs, h.i0, h.i1, rfl⟩
/-- the bits that go are the cell's -/
theorem Way.kb {q : List Int} {r s : Nat} {x : Int} {N : Nat} {i : Int} (hq : IsN q r) (h0 : 0 < q.getD s 0) (h : Way q r s x N i) (x0 : 0 ≤ x) (x1 : x < p2 r) : kb r i = N := by
  have hle : q.getD s 0 ≤ p2 r := by rw [← hq.p2]; exact (getD_pos_take q hq.nq.len (((rightB_iff q).1 hq.R).2.1) s).2
  obtain ⟨j, j0, j1, j2, j3⟩ := tile_ex (r := r) (n := q.getD s 0) (y := p2 r + x) (by omega) hle hq.r1 (by omega) (by omega)
  have hp := p2_pos (Proofs.Ytjgmilkgklellaa.kb r j)
  have e : (p2 r + x) / p2 (Proofs.Ytjgmilkgklellaa.kb r j) = j := by
    refine Int.le_antisymm ?_ ?_
    · have := (Int.ediv_lt_iff_lt_mul (a := p2 r + x) (b := j + 1) (c := p2 (Proofs.Ytjgmilkgklellaa.kb r j)) (by omega)).2 j3
      omega
    · exact (Int.le_ediv_iff_mul_le (by omega)).2 j2
  have hN := h.one (M := Proofs.Ytjgmilkgklellaa.kb r j) (by have := p2_pos r; omega) (by rw [e]; exact j0) (by rw [e]; exact j1)
  have : j = i := by rw [← e, hN, h.d]
  rw [← this]; exact hN
/-! the reference's step -/
theorem rstep_from {q : List Int} {r : Nat} (hq : IsN q r) (s : Nat) (hs : s < 256) (h0 : 0 < q.getD s 0) {x : Int} {N : Nat} {i : Int} (x0 : 0 ≤ x) (x1 : x < p2 r) (h : Way q r s x N i) : ∀ (d m : Nat), m + d = N →
    Ev (fun k => puncheonref12_Step.l0 k q (s : Int) ((p2 r + x) / p2 m) (m : Int) ((p2 r + x) % p2 m) (p2 m)) ((placeZ q (key q s i) : Int), (N : Int), (p2 r + x) % p2 N, true)
  | 0, m, hd => by
    obtain rfl : m = N := by omega
    have hb := p2_12 hq.r1
    have hl := hq.nq.len
    have hle := hq.nq.bd s
    have hi0 := h.i0
    have hi1 := h.i1
    have hm := p2_pos m
    have hmm := p2_12 (show m ≤ 12 by have := h.Nr; have := hq.r1; omega)
    have m0 : 0 ≤ (p2 r + x) % p2 m := Int.emod_nonneg _ (by omega)
    have m1 : (p2 r + x) % p2 m < p2 m := Int.emod_lt_of_pos _ (by omega)
    refine Ev.step (fun _ => by rw [puncheonref12_Step.l0]) ?_
    rw [rd_nat q s, h.d, show wrap64 (2 * q.getD s 0) = 2 * q.getD s 0 from w64' rfl (by omega) (by omega)]
    refine ev_pos (by omega) (ev_pos (by omega) (ev_neg (by omega) (Ev.bind (rplace_ev hq.nq s hs i (by omega) (by omega)) ?_)))
    rw [show (p2 r + x) % p2 m % 4294967296 = (p2 r + x) % p2 m by omega]
    exact Ev.now _
  | d + 1, m, hd => by
    have ih := rstep_from hq s hs h0 x0 x1 h d (m + 1) (by omega)
    have hb := p2_12 hq.r1
    have hp := p2_pos r
    have hl := hq.nq.len
    have hle := hq.nq.bd s
    have hm := p2_pos m
    have hmm := p2_12 (show m ≤ 12 by have := h.Nr; have := hq.r1; omega)
    have m0 : 0 ≤ (p2 r + x) % p2 m := Int.emod_nonneg _ (by omega)
    have m1 : (p2 r + x) % p2 m < p2 m := Int.emod_lt_of_pos _ (by omega)
    have hW0 : 0 ≤ (p2 r + x) / p2 m := Int.ediv_nonneg (by omega) (by omega)
    have hW1 : (p2 r + x) / p2 m ≤ p2 r + x := Int.ediv_le_self _ (by omega)
    have hge : 2 * q.getD s 0 ≤ (p2 r + x) / p2 m := by
      have h2 := halves_le (p2 r + x) (by omega) (m + 1) d
      rw [half_p2, show m + 1 + d = N by omega, h.d] at h2
      have := h.i0
      omega
    have e1 : wrap64 (Int.tdiv ((p2 r + x) / p2 m) 2) = (p2 r + x) / p2 (m + 1) := by
      rw [Int.tdiv_eq_ediv_of_nonneg hW0, half_p2]
      exact w64' rfl (by omega) (by omega)
    have e2 : (p2 r + x) % p2 m + ((p2 r + x) / p2 m % 2) * p2 m = (p2 r + x) % p2 (m + 1) := by
      have a1 := Int.mul_ediv_add_emod (p2 r + x) (p2 m)
      have a2 := Int.mul_ediv_add_emod (p2 r + x) (p2 (m + 1))
      have a3 := Int.mul_ediv_add_emod ((p2 r + x) / p2 m) 2
      rw [half_p2, p2_succ] at a2
      generalize (p2 r + x) / p2 m = Y at *
      have a4 : p2 m * Y = 2 * p2 m * (Y / 2) + (Y % 2) * p2 m := by
        have : p2 m * Y = p2 m * (2 * (Y / 2) + Y % 2) := by rw [a3]
        rw [this, Int.mul_add, ← Int.mul_assoc, Int.mul_comm (p2 m) 2, Int.mul_comm (p2 m) (Y % 2)]
      rw [p2_succ]
      omega
    have e3 : 0 ≤ ((p2 r + x) / p2 m % 2) * p2 m ∧ ((p2 r + x) / p2 m % 2) * p2 m ≤ 4096 := by
      have : (p2 r + x) / p2 m % 2 = 0 ∨ (p2 r + x) / p2 m % 2 = 1 := by omega
      rcases this with h | h <;> rw [h] <;> omega
    refine Ev.step (fun _ => by rw [puncheonref12_Step.l0]) ?_
    rw [rd_nat q s, show wrap64 (2 * q.getD s 0) = 2 * q.getD s 0 from w64' rfl (by omega) (by omega)]
    refine ev_pos (by omega) (ev_pos (by omega) (ev_pos (by omega) ?_))
    rw [e1, Int.tmod_eq_emod_of_nonneg hW0, show wrap64 ((p2 r + x) / p2 m % 2 * p2 m) = (p2 r + x) / p2 m % 2 * p2 m from w64' rfl (by omega) (by omega), wnext m (by have := h.Nr; have := hq.r1; omega),
      show wrap64 ((p2 r + x) % p2 m + (p2 r + x) / p2 m % 2 * p2 m) = (p2 r + x) % p2 (m + 1) from w64' e2 (by rw [← e2]; omega) (by rw [← e2]; omega), show wrap64 (2 * p2 m) = p2 (m + 1) from w64' (by rw [p2_succ]) (by rw [p2_succ]; omega) (by rw [p2_succ]; omega)]
    exact ih
theorem rstep_yes {q : List Int} {r : Nat} (hq : IsN q r) (s : Nat) (hs : s < 256) (h0 : 0 < q.getD s 0) {x : Int} {N : Nat} {i : Int} (x0 : 0 ≤ x) (x1 : x < p2 r) (h : Way q r s x N i) :
    Ev (fun k => puncheonref12_Step.f k q x (s : Int)) ((placeZ q (key q s i) : Int), (N : Int), (p2 r + x) % p2 N, true) := by
  have hb := p2_12 hq.r1
  have hp := p2_pos r
  have hl := hq.nq.len
  have := rstep_from hq s hs h0 x0 x1 h N 0 (by omega)
  rw [p2_0, Int.ediv_one, Int.emod_one] at this
  unfold puncheonref12_Step.f
  refine Ev.bind (rlog_ev q (by omega)) ?_
  rw [hq.lg, shl2 1 r (by omega) hq.r1 (by omega), Int.one_mul, rd_nat q s]
  refine ev_pos (by omega) (ev_neg (by omega) (ev_neg (by omega) (ev_pos (by omega) (ev_pos (by omega) ?_))))
  refine Ev.step (fun _ => by rw [puncheonref12_Step.j0]) ?_
  rw [show (q.getD s 0 == 0) = false by rw [beq_eq_false_iff_ne]; omega, show wrap64 (p2 r + x) = p2 r + x from w64' rfl (by omega) (by omega)]
  exact ev_neg (by decide) this
theorem rstep_no {q : List Int} {r : Nat} (hq : IsN q r) (s : Nat) (hs : s < 256) (x : Int) (h : x < 0 ∨ p2 r ≤ x ∨ q.getD s 0 = 0) :
    Ev (fun k => puncheonref12_Step.f k q x (s : Int)) ((0 : Int), (0 : Int), (0 : Int), false) := by
  have hb := p2_12 hq.r1
  have hp := p2_pos r
  have hl := hq.nq.len
  unfold puncheonref12_Step.f
  refine Ev.bind (rlog_ev q (by omega)) ?_
  rw [hq.lg, shl2 1 r (by omega) hq.r1 (by omega), Int.one_mul, rd_nat q s]
  have hj : ∀ b : Bool, b = true → Ev (fun k => puncheonref12_Step.j0 k q x (s : Int) (p2 r) b) ((0 : Int), (0 : Int), (0 : Int), false) := by
    rintro b rfl
    refine Ev.step (fun _ => by rw [puncheonref12_Step.j0]) ?_
    exact ev_pos rfl (Ev.now _)
  refine ev_pos (by omega) ?_
  by_cases c1 : x < 0
  · exact ev_pos c1 (hj _ rfl)
  · refine ev_neg c1 ?_
    by_cases c2 : x ≥ p2 r
    · exact ev_pos c2 (hj _ rfl)
    · refine ev_neg c2 (ev_pos (by omega) (ev_pos (by omega) (hj _ ?_)))
      rw [show q.getD s 0 = 0 by omega]; rfl
theorem emany_from (q : List Int) (hl : q.length = 256) : ∀ (d i : Nat), i + d = 256 → Ev (fun k => puncheonref12_Many.l0 k q (haveTo q i : Int) (i : Int)) (haveTo q 256 : Int)
  | 0, i, hd => by
    obtain rfl : i = 256 := by omega
    refine Ev.step (fun _ => by rw [puncheonref12_Many.l0]) ?_
    exact ev_neg (by omega) (Ev.now _)
  | d + 1, i, hd => by
    have ih := emany_from q hl d (i + 1) (by omega)
    have hh := haveTo_le q i
    rw [haveTo_succ] at ih
    refine Ev.step (fun _ => by rw [puncheonref12_Many.l0]) ?_
    rw [rd_nat q i, wnext i (by omega), wnext (haveTo q i) (by omega)]
    refine ev_pos (by omega) (ev_pos (by omega) ?_)
    by_cases c : q.getD i 0 > 0
    · rw [if_pos c] at ih
      exact ev_pos c ih
    · rw [if_neg c, Nat.add_zero] at ih
      exact ev_neg c ih
theorem emany_ev (q : List Int) (hl : q.length = 256) : Ev (fun k => puncheonref12_Many.f k q) (haveTo q 256 : Int) := by
  have := emany_from q hl 256 0 (by omega)
  rw [show haveTo q 0 = 0 from rfl] at this
  exact this
end Go.Proofs.Ytjgmilkgklellaa
