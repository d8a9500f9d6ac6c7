/- The layer dtab, plainly: the cells of normalized counts, and when cells are whole; what the printed functions of the layer come to. -/
import Derived.Test.YtjbpmlpmfbeobaaPs
import Derived.Test.YtjbpmlpmfbeobaaLw
import Derived.Test.YtjbpmlpmfbeobaaPPrx8
import Derived.Test.YtjbpmlpmfbeobaaPPrx10
import Derived.Test.YtjbpmlpmfbeobaaPPrx9
namespace Go.Proofs.Ytjbpmlpmfbeobaa
open Go.RowKit Go.Proofs.YtjbpmlpmfbeobaaW.PrintWords Go.Proofs.YtjbpmlpmfbeobaaW.PrintMore PPr HK
set_option linter.unusedSimpArgs false
set_option linter.unusedVariables false
abbrev Cel := S37
abbrev zc : Cel := z37
theorem p2_add (a b : Nat) : p2 (a + b) = p2 a * p2 b := by unfold p2; rw [Nat.pow_add, Int.natCast_mul]
theorem p2_12 {k : Nat} (h : k ≤ 12) : p2 k ≤ 4096 := by have := p2_mono h; have e : p2 12 = 4096 := by decide
                                                         omega
theorem shl2 (x : Int) (a : Nat) (h0 : 0 ≤ x) (ha : a ≤ 12) (hx : x ≤ 1125899906842624) : shl .i64 x (a : Int) = x * p2 a := by
  rw [shlE x a h0 (by omega) hx, Int.toNat_natCast, pow_p2]
theorem IsN.p2 {q : List Int} {r : Nat} (h : IsN q r) : q.sum = p2 r := by rw [h.sm, pow_p2]
/-- how many bits -/
def kb (r : Nat) (i : Int) : Nat := r - (fll i).toNat
def cellK (r : Nat) (x : S) : Cel := ⟨x.f2, (kb r x.f0 : Int), x.f0 * p2 (kb r x.f0) - p2 r⟩
/-- the log of a count, and of its keys -/
structure KeyLog (r K : Nat) (n i : Int) : Prop where
  n0 : p2 K ≤ n
  n1 : n < p2 (K + 1)
  Kr : K ≤ r
  or : (fll i = (K : Int) ∧ i < p2 (K + 1)) ∨ (fll i = ((K + 1 : Nat) : Int) ∧ p2 (K + 1) ≤ i ∧ K + 1 ≤ r)
theorem keyLog {r : Nat} {n i : Int} (h0 : 1 ≤ n) (h1 : n ≤ p2 r) (hr : r ≤ 12) (hi0 : n ≤ i) (hi1 : i < 2 * n) : KeyLog r (fll n).toNat n i := by
  have hb := p2_12 hr
  obtain ⟨a, b, _⟩ := fll_spec n h0 (by omega)
  have hf := fll_bd n
  have c : (fll n).toNat ≤ r := by
    have := p2_lt (show p2 (fll n).toNat < p2 (r + 1) by rw [p2_succ]; have := p2_pos r; omega)
    omega
  refine ⟨a, b, c, ?_⟩
  rcases Int.lt_or_le i (p2 ((fll n).toNat + 1)) with h | h
  · exact .inl ⟨fll_of i _ (by omega) h (by omega), h⟩
  · have h2 : i < p2 ((fll n).toNat + 1 + 1) := by rw [p2_succ]; omega
    refine .inr ⟨fll_of i _ h h2 (by omega), h, ?_⟩
    have := p2_lt (show p2 ((fll n).toNat + 1) < p2 (r + 1) by rw [p2_succ r]; omega)
    omega
theorem key_fll {r : Nat} {i : Int} (h0 : 1 ≤ i) (h1 : i < 2 * p2 r) (hr : r ≤ 12) : ∃ F : Nat, fll i = (F : Int) ∧ p2 F ≤ i ∧ i < p2 (F + 1) ∧ F ≤ r ∧ p2 F * p2 (r - F) = p2 r ∧ kb r i = r - F := by
  have hb := p2_12 hr
  obtain ⟨a, b, _⟩ := fll_spec i h0 (by omega)
  have hf := fll_bd i
  have c : (fll i).toNat ≤ r := by
    have := p2_lt (show p2 (fll i).toNat < p2 (r + 1) by rw [p2_succ]; omega)
    omega
  exact ⟨(fll i).toNat, by omega, a, b, c, by rw [← p2_add]; congr 1; omega, rfl⟩
/-- a cell lies among the states -/
theorem cell_in {r : Nat} {i : Int} (h0 : 1 ≤ i) (h1 : i < 2 * p2 r) (hr : r ≤ 12) : p2 r ≤ i * p2 (kb r i) ∧ (i + 1) * p2 (kb r i) ≤ 2 * p2 r ∧ kb r i ≤ r := by
  obtain ⟨F, e, a, b, c, d, k⟩ := key_fll h0 h1 hr
  have hp := p2_pos (r - F)
  rw [k]
  refine ⟨?_, ?_, by omega⟩
  · rw [← d]; exact Int.mul_le_mul_of_nonneg_right a (by omega)
  · have h2 : (i + 1) * p2 (r - F) ≤ p2 (F + 1) * p2 (r - F) := Int.mul_le_mul_of_nonneg_right (by omega) (by omega)
    rw [p2_succ, Int.mul_assoc, d] at h2
    exact h2
theorem tile_ex {r : Nat} {n y : Int} (h0 : 1 ≤ n) (h1 : n ≤ p2 r) (hr : r ≤ 12) (hy0 : p2 r ≤ y) (hy1 : y < 2 * p2 r) : ∃ i, n ≤ i ∧ i < 2 * n ∧ i * p2 (kb r i) ≤ y ∧ y < (i + 1) * p2 (kb r i) := by
  have hb := p2_12 hr
  have L := keyLog h0 h1 hr (Int.le_refl n) (by omega)
  obtain ⟨K, hK⟩ : ∃ K, (fll n).toNat = K := ⟨_, rfl⟩
  rw [hK] at L
  have hPp := p2_pos (r - K)
  have e1 : p2 K * p2 (r - K) = p2 r := by rw [← p2_add]; congr 1; have := L.Kr; omega
  have a1 := L.n0
  have a2 := L.n1
  have a3 := p2_succ K
  by_cases c : n * p2 (r - K) ≤ y
  · have i0 : n ≤ y / p2 (r - K) := (Int.le_ediv_iff_mul_le (by omega)).2 c
    have i1 : y / p2 (r - K) < p2 (K + 1) := (Int.ediv_lt_iff_lt_mul (by omega)).2 (by rw [p2_succ, Int.mul_assoc, e1]; exact hy1)
    have hf : fll (y / p2 (r - K)) = (K : Int) := fll_of _ K (by omega) i1 (by omega)
    have hk : kb r (y / p2 (r - K)) = r - K := by unfold kb; rw [hf, Int.toNat_natCast]
    refine ⟨y / p2 (r - K), i0, by omega, ?_, ?_⟩
    · rw [hk]; exact Int.ediv_mul_le y (by omega)
    · rw [hk]; exact Int.lt_ediv_add_one_mul_self y (by omega)
  · have hKr : K + 1 ≤ r := by
      rcases Nat.lt_or_ge K r with h | h
      · exact h
      · exfalso
        have e : r - K = 0 := by omega
        rw [e, p2_0, Int.mul_one] at c
        omega
    have e2 : p2 (r - K) = 2 * p2 (r - (K + 1)) := by rw [← p2_succ]; congr 1; omega
    have hQ := p2_pos (r - (K + 1))
    have e3 : p2 (K + 1) * p2 (r - (K + 1)) = p2 r := by rw [← p2_add]; congr 1; omega
    have i0 : p2 (K + 1) ≤ y / p2 (r - (K + 1)) := (Int.le_ediv_iff_mul_le (by omega)).2 (by rw [e3]; exact hy0)
    have i1 : y / p2 (r - (K + 1)) < 2 * n := (Int.ediv_lt_iff_lt_mul (by omega)).2 (by
      rw [e2, Int.mul_comm n, Int.mul_assoc, Int.mul_comm _ n, ← Int.mul_assoc] at c
      omega)
    have hf : fll (y / p2 (r - (K + 1))) = ((K + 1 : Nat) : Int) := fll_of _ (K + 1) i0 (by rw [p2_succ]; omega) (by omega)
    have hk : kb r (y / p2 (r - (K + 1))) = r - (K + 1) := by unfold kb; rw [hf, Int.toNat_natCast]
    refine ⟨y / p2 (r - (K + 1)), by omega, i1, ?_, ?_⟩
    · rw [hk]; exact Int.ediv_mul_le y (by omega)
    · rw [hk]; exact Int.lt_ediv_add_one_mul_self y (by omega)
theorem tile_one {r : Nat} {n y i j : Int} (h0 : 1 ≤ n) (h1 : n ≤ p2 r) (hr : r ≤ 12) (hi0 : n ≤ i) (hi1 : i < 2 * n) (hj0 : n ≤ j) (hj1 : j < 2 * n)
    (a1 : i * p2 (kb r i) ≤ y) (a2 : y < (i + 1) * p2 (kb r i)) (b1 : j * p2 (kb r j) ≤ y) (b2 : y < (j + 1) * p2 (kb r j)) : i = j := by
  have hsame : ∀ P : Int, 0 < P → ∀ u v : Int, u * P ≤ y → y < (u + 1) * P → v * P ≤ y → y < (v + 1) * P → u = v := by
    intro P hP u v c1 c2 c3 c4
    have d1 : u < v + 1 := Int.lt_of_mul_lt_mul_right (Int.lt_of_le_of_lt c1 c4) (by omega)
    have d2 : v < u + 1 := Int.lt_of_mul_lt_mul_right (Int.lt_of_le_of_lt c3 c2) (by omega)
    omega
  have Li := keyLog h0 h1 hr hi0 hi1
  have Lj := keyLog h0 h1 hr hj0 hj1
  obtain ⟨K, hK⟩ : ∃ K, (fll n).toNat = K := ⟨_, rfl⟩
  rw [hK] at Li Lj
  have hmix : ∀ u v : Int, n ≤ u → v < 2 * n → K + 1 ≤ r → u * p2 (r - K) ≤ y → y < (v + 1) * p2 (r - (K + 1)) → False := by
    intro u v c1 c2 c3 c4 c5
    have e2 : p2 (r - K) = 2 * p2 (r - (K + 1)) := by rw [← p2_succ]; congr 1; omega
    have hQ := p2_pos (r - (K + 1))
    have d1 : n * p2 (r - K) ≤ u * p2 (r - K) := Int.mul_le_mul_of_nonneg_right c1 (by omega)
    have d2 : (v + 1) * p2 (r - (K + 1)) ≤ (2 * n) * p2 (r - (K + 1)) := Int.mul_le_mul_of_nonneg_right (by omega) (by omega)
    rw [e2, ← Int.mul_assoc, Int.mul_comm n 2] at d1
    rw [e2] at c4
    omega
  have ek : ∀ u F, fll u = ((F : Nat) : Int) → kb r u = r - F := by intro u F h; unfold kb; rw [h, Int.toNat_natCast]
  rcases Li.or with ⟨c, _⟩ | ⟨c, _, c'⟩
  · rcases Lj.or with ⟨d, _⟩ | ⟨d, _, d'⟩
    · rw [ek i K c] at a1 a2
      rw [ek j K d] at b1 b2
      exact hsame _ (by have := p2_pos (r - K); omega) i j a1 a2 b1 b2
    · rw [ek i K c] at a1 a2
      rw [ek j _ d] at b1 b2
      exact (hmix i j hi0 hj1 d' a1 b2).elim
  · rcases Lj.or with ⟨d, _⟩ | ⟨d, _, d'⟩
    · rw [ek i _ c] at a1 a2
      rw [ek j K d] at b1 b2
      exact (hmix j i hj0 hi1 c' b1 a2).elim
    · rw [ek i _ c] at a1 a2
      rw [ek j _ d] at b1 b2
      exact hsame _ (by have := p2_pos (r - (K + 1)); omega) i j a1 a2 b1 b2
/-- a key of these counts, its numbers -/
theorem IsKey.bds {q : List Int} {r : Nat} (hq : IsN q r) {x : S} (hx : IsKey q x) : 1 ≤ x.f1 ∧ x.f1 ≤ p2 r ∧ x.f1 ≤ x.f0 ∧ x.f0 < 2 * x.f1 := by
  have h := hx.right hq.nq
  have h1 := h.q0
  have h2 := h.i0
  have h3 := h.i1
  obtain ⟨s, i, k1, k2, k3, rfl⟩ := hx
  have := (getD_pos_take q hq.nq.len ((rightB_iff q).1 hq.R).2.1 s).2
  rw [hq.p2] at this
  exact ⟨h1, this, h2, h3⟩
/-! cells that are whole -/
def CovP (c : Cel) (s y : Int) : Prop := c.f0 = s ∧ c.f2 ≤ y ∧ y < c.f2 + p2 c.f1.toNat
def Fit (n : Int) (c : Cel) : Prop := 0 ≤ c.f1 ∧ c.f1 ≤ 12 ∧ 0 ≤ c.f2 ∧ c.f2 + p2 c.f1.toNat ≤ n
structure WP (C : List Cel) : Prop where
  fit : ∀ j, j < C.length → Fit C.length (C.getD j zc)
  dis : ∀ i j, i < j → j < C.length → ∀ s y, CovP (C.getD i zc) s y → ¬ CovP (C.getD j zc) s y
  all : ∀ j, j < C.length → ∀ y : Int, 0 ≤ y → y < (C.length : Int) → ∃ i, i < C.length ∧ CovP (C.getD i zc) (C.getD j zc).f0 y
def celL (r : Nat) (L : List S) : List Cel := L.map (cellK r)
theorem celL_len (r : Nat) (L : List S) : (celL r L).length = L.length := by simp [celL]
theorem celL_get (r : Nat) (L : List S) (i : Nat) (h : i < L.length) : (celL r L).getD i zc = cellK r (L.getD i z) := mapL_getD zc _ L i h
theorem cellK_fit {q : List Int} {r : Nat} (hq : IsN q r) {x : S} (hx : IsKey q x) : Fit (p2 r) (cellK r x) := by
  obtain ⟨a, b, c, d⟩ := hx.bds hq
  obtain ⟨e, f, g⟩ := cell_in (r := r) (i := x.f0) (by omega) (by omega) hq.r1
  have hr := hq.r1
  rw [Int.add_mul, Int.one_mul] at f
  unfold Fit cellK
  refine ⟨by dsimp only; omega, by dsimp only; omega, by dsimp only; omega, ?_⟩
  dsimp only
  rw [Int.toNat_natCast]
  omega
theorem cellK_cov {r : Nat} (x : S) (s y : Int) : CovP (cellK r x) s y ↔ x.f2 = s ∧ x.f0 * p2 (kb r x.f0) ≤ y + p2 r ∧ y + p2 r < (x.f0 + 1) * p2 (kb r x.f0) := by
  unfold CovP cellK
  dsimp only
  rw [Int.toNat_natCast, Int.add_mul, Int.one_mul]
  constructor
  · rintro ⟨a, b, c⟩; exact ⟨a, by omega, by omega⟩
  · rintro ⟨a, b, c⟩; exact ⟨a, by omega, by omega⟩
/-- just one cell covers a state -/
theorem cov_one {q : List Int} {r : Nat} (hq : IsN q r) {L : List S} (hL : OrdL q L) {i j : Nat} (hi : i < L.length) (hj : j < L.length) {s y : Int} (a : CovP (cellK r (L.getD i z)) s y) (b : CovP (cellK r (L.getD j z)) s y) : i = j := by
  have ki := hL.key i hi
  have kj := hL.key j hj
  have pi := hL.s.place hq.nq i hi
  have pj := hL.s.place hq.nq j hj
  generalize L.getD i z = x at a ki pi
  generalize L.getD j z = x' at b kj pj
  rw [cellK_cov] at a b
  have e : x.f2 = x'.f2 := by omega
  have e1 := ki.same kj e
  obtain ⟨a1, a2, a3, a4⟩ := ki.bds hq
  obtain ⟨b1, b2, b3, b4⟩ := kj.bds hq
  have := tile_one a1 a2 hq.r1 a3 a4 (by omega) (by omega) a.2.1 a.2.2 b.2.1 b.2.2
  rw [← pi, ← pj, ki.eq kj e this]
theorem cov_ex {q : List Int} {r : Nat} (hq : IsN q r) {L : List S} (hL : OrdL q L) (s : Nat) (hs : s < 256) (h0 : 0 < q.getD s 0) (y : Int) (y0 : 0 ≤ y) (y1 : y < p2 r) : ∃ i, i < L.length ∧ CovP (cellK r (L.getD i z)) (s : Int) y := by
  have hb := (getD_pos_take q hq.nq.len ((rightB_iff q).1 hq.R).2.1 s).2
  rw [hq.p2] at hb
  obtain ⟨i, c1, c2, c3, c4⟩ := tile_ex (n := q.getD s 0) (y := y + p2 r) (by omega) hb hq.r1 (by omega) (by omega)
  have hx : IsKey q (key q s i) := ⟨s, i, hs, c1, c2, rfl⟩
  obtain ⟨d1, d2⟩ := hL.s.there hq.nq hx
  exact ⟨_, d1, by rw [d2, cellK_cov]; exact ⟨rfl, c3, c4⟩⟩
theorem cells_whole {q : List Int} {r : Nat} (hq : IsN q r) {L : List S} (hL : OrdL q L) : WP (celL r L) := by
  have hl := hL.len hq.nq
  rw [hq.p2] at hl
  refine ⟨fun j hj => ?_, fun i j hij hj s y hi hj' => ?_, fun j hj y y0 y1 => ?_⟩
  · rw [celL_len] at hj ⊢
    rw [celL_get r L j hj, hl]
    exact cellK_fit hq (hL.key j hj)
  · rw [celL_len] at hj
    rw [celL_get r L j hj] at hj'
    rw [celL_get r L i (by omega)] at hi
    have := cov_one hq hL (show i < L.length by omega) hj hi hj'
    omega
  · rw [celL_len] at hj y1
    rw [celL_get r L j hj]
    obtain ⟨s, i, k1, k2, k3, e⟩ := hL.key j hj
    rw [e]
    obtain ⟨t, t1, t2⟩ := cov_ex hq hL s k1 (by omega) y y0 (by omega)
    refine ⟨t, by rw [celL_len]; exact t1, ?_⟩
    rw [celL_get r L t t1]
    exact t2
theorem floorF (v : Int) (h0 : -9223372036854775808 ≤ v) (h1 : v ≤ 9223372036854775807) : logs_Floor.f v = some (fll v) := by
  have hb := wid_bd v
  unfold logs_Floor.f logs_Width.f
  rw [if_pos ⟨h0, h1⟩, Option.bind_some, wraps (by omega) (by omega)]
  unfold fll mx
  rfl
/-- the running counts -/
def runL (q : List Int) (L : List S) (i : Nat) : List Int := (List.range 256).map fun (s : Nat) => q.getD s 0 + (cntTo L (s : Int) i : Int)
theorem runL_len (q : List Int) (L : List S) (i : Nat) : (runL q L i).length = 256 := by simp [runL]
theorem runL_get (q : List Int) (L : List S) (i s : Nat) (hs : s < 256) : (runL q L i).getD s 0 = q.getD s 0 + (cntTo L (s : Int) i : Int) := mapR_get _ s hs
theorem runL_0 (q : List Int) (L : List S) (hl : q.length = 256) : runL q L 0 = q := by
  apply ext_getDE (by rw [runL_len, hl])
  intro s hs
  rw [runL_len] at hs
  rw [runL_get q L 0 s hs]
  show q.getD s 0 + 0 = q.getD s 0
  omega
theorem runL_set (q : List Int) (L : List S) (i s : Nat) (hi : i < L.length) (hs : s < 256) (e : (L.getD i z).f2 = (s : Int)) : (runL q L i).set s (q.getD s 0 + (cntTo L (s : Int) i : Int) + 1) = runL q L (i + 1) := by
  apply ext_getDE (by rw [List.length_set, runL_len, runL_len])
  intro t ht
  rw [List.length_set, runL_len] at ht
  rw [getD_set _ _ _ _ (by rw [runL_len]; exact hs), runL_get q L i t ht, runL_get q L (i + 1) t ht, cntTo_succ L _ i hi]
  by_cases c : s = t
  · subst c
    rw [if_pos rfl, if_pos e]; omega
  · rw [if_neg c, if_neg (by omega)]; omega
theorem dtabOf_from {q : List Int} {r : Nat} (hq : IsN q r) {L : List S} (hL : OrdL q L) : ∀ (d i : Nat), i + d = L.length →
    Ev (fun k => dtab_Of.l0 k (r : Int) (runL q L i) (celL r (L.take i)) (symL L) (L.length : Int) (i : Int)) (celL r L, 0)
  | 0, i, hd => by
    refine Ev.step (fun _ => by rw [dtab_Of.l0]) ?_
    refine ev_neg (by omega) ?_
    rw [List.take_of_length_le (by omega)]
    exact Ev.now _
  | d + 1, i, hd => by
    have hN := hq.nq
    have hl := hL.len hN
    have hsm := hN.sm
    have hr1 := hq.r1
    have ih := dtabOf_from hq hL d (i + 1) (by omega)
    have hi : i < L.length := by omega
    have hk := hL.key i hi
    obtain ⟨b1, b2, b3, b4⟩ := hk.bds hq
    have hpr := p2_12 hr1
    obtain ⟨F, e, f1, f2, f3, f4, f5⟩ := key_fll (r := r) (i := (L.getD i z).f0) (by omega) (by omega) hr1
    obtain ⟨g1, g2, g3⟩ := cell_in (r := r) (i := (L.getD i z).f0) (by omega) (by omega) hr1
    obtain ⟨s, hs, es⟩ : ∃ s : Nat, s < 256 ∧ (L.getD i z).f2 = (s : Int) := by have := hk.sym; exact ⟨(L.getD i z).f2.toNat, by omega, by omega⟩
    have hf := cntTo_key hL hN i hi s hs es
    have hset := runL_set q L i s hi hs es
    have htake : celL r (L.take (i + 1)) = celL r (L.take i) ++ [cellK r (L.getD i z)] := by
      unfold celL
      rw [List.take_succ_eq_append_getElem hi, List.map_append, List.getD_eq_getElem?_getD, List.getElem?_eq_getElem hi]
      rfl
    rw [htake] at ih
    refine Ev.step (fun _ => by rw [dtab_Of.l0]) ?_
    rw [symL_len, rd_nat (symL L) i, symL_get L i hi, es, rd_nat (runL q L i) s, runL_get q L i s hs, runL_len, ← hf, wnext i (by omega)]
    refine ev_pos (by omega) (ev_pos (by omega) (ev_pos (by omega) (ev_pos (by omega) (ev_pos (by omega) (ev_obind (floorF _ (by omega) (by omega)) ?_)))))
    have ew : wrap64 ((r : Int) - fll (L.getD i z).f0) = (kb r (L.getD i z).f0 : Int) := by rw [e, f5]; exact w64' (by omega) (by omega) (by omega)
    rw [ew]
    refine ev_pos (by omega) (ev_pos (by omega) (ev_pos (by rw [celL_len, List.length_take]; omega) ?_))
    have hm : (L.getD i z).f0 * p2 (kb r (L.getD i z).f0) ≤ 8192 := by rw [Int.add_mul, Int.one_mul] at g2; have := p2_pos (kb r (L.getD i z).f0); omega
    have hp := p2_pos r
    rw [shl2 (L.getD i z).f0 (kb r (L.getD i z).f0) (by omega) (by omega) (by omega), shl2 1 r (by omega) hr1 (by omega), Int.one_mul, Int.toNat_natCast, wraps (by omega) (by omega), wraps (by omega) (by omega), show (⟨(s : Int), (kb r (L.getD i z).f0 : Int), (L.getD i z).f0 * p2 (kb r (L.getD i z).f0) - p2 r⟩ : Cel) = cellK r (L.getD i z) by unfold cellK; rw [es]]
    rw [hf, hset]
    exact ih
theorem dtabOf_ev {q : List Int} {r : Nat} (hq : IsN q r) {L : List S} (hL : OrdL q L) : Ev (fun k => dtab_Of.f k q) (celL r L, 0) := by
  have hN := hq.nq
  have hl := hN.len
  have := dtabOf_from hq hL L.length 0 (by omega)
  unfold dtab_Of.f
  refine Ev.bind (spreadOf_ev hq hL) (ev_pos rfl (Ev.bind (spreadLog_ev q (by omega)) (ev_obind rfl (ev_pos (by show 0 + q.length < _; omega) ?_))))
  dsimp only
  rw [hq.lg, List.nil_append, symL_len]
  rw [runL_0 q L hl] at this
  exact this
theorem dtabOf_no {q : List Int} (hm : q.length ≤ 4611686018427387000) (h : lg (totZ q) 12 1 = (0, false)) : Ev (fun k => dtab_Of.f k q) (([] : List Cel), 1) := by
  unfold dtab_Of.f
  exact Ev.bind (spreadOf_no hm h) (ev_neg (by decide) (Ev.now _))
theorem rdC_nat (C : List Cel) (i : Nat) : rd_T37 C (i : Int) = C.getD i zc := rfl
theorem shr_zero (m : Int) (b : Nat) (h0 : 0 ≤ m) (hb : b ≤ 12) : (shr .u32 m (b : Int) = 0) ↔ m < p2 b := by
  unfold shr
  rw [Nat.min_eq_left (show (b : Int).toNat ≤ IntKind.u32.bits by show (b : Int).toNat ≤ 32; omega), Int.toNat_natCast, pow_p2]
  have hp := p2_pos b
  constructor
  · intro h
    have := Int.lt_ediv_add_one_mul_self m (show 0 < p2 b by omega)
    rw [h] at this
    omega
  · intro h
    exact Int.ediv_eq_zero_of_lt h0 h
theorem step_yes (C : List Cel) (i : Nat) (m : Int) (hi : i < C.length) (h0 : 0 ≤ m) (hf : 0 ≤ (C.getD i zc).f1 ∧ (C.getD i zc).f1 ≤ 12) (hm : m < p2 (C.getD i zc).f1.toNat) (hb : -4611686018427 ≤ (C.getD i zc).f2 ∧ (C.getD i zc).f2 ≤ 4611686018427) : dtab_Step.f C (i : Int) m = some ((C.getD i zc).f0, (C.getD i zc).f2 + m, true) := by
  have hp := p2_12 (show (C.getD i zc).f1.toNat ≤ 12 by omega)
  have hs := (shr_zero m (C.getD i zc).f1.toNat h0 (by omega)).2 hm
  rw [show (((C.getD i zc).f1.toNat : Nat) : Int) = (C.getD i zc).f1 by omega] at hs
  unfold dtab_Step.f
  rw [rdC_nat, if_neg (by omega), if_neg (by omega), if_pos (by omega), if_pos (by omega), if_neg (by omega), if_neg (by omega), if_pos (by omega), if_pos hs, wraps (x := m) (by omega) (by omega), wraps (by omega) (by omega)]
theorem step_no (C : List Cel) (i : Nat) (m : Int) (hi : i < C.length) (h0 : 0 ≤ m) (hf : 0 ≤ (C.getD i zc).f1 ∧ (C.getD i zc).f1 ≤ 12) (hm : ¬ m < p2 (C.getD i zc).f1.toNat) : dtab_Step.f C (i : Int) m = some (0, 0, false) := by
  have hs := fun h => hm ((shr_zero m (C.getD i zc).f1.toNat h0 (by omega)).1 h)
  rw [show (((C.getD i zc).f1.toNat : Nat) : Int) = (C.getD i zc).f1 by omega] at hs
  unfold dtab_Step.f
  rw [rdC_nat, if_neg (by omega), if_neg (by omega), if_pos (by omega), if_pos (by omega), if_neg (by omega), if_neg (by omega), if_pos (by omega), if_neg hs]
/-! what has been met -/
open Classical in
noncomputable def metL (n : Nat) (P : Int → Int → Prop) : List Int := (List.range (256 * n)).map fun (t : Nat) => if P ((t / n : Nat) : Int) ((t % n : Nat) : Int) then 1 else 0
theorem metL_len (n : Nat) (P : Int → Int → Prop) : (metL n P).length = 256 * n := by simp [metL]
theorem metL_at (n : Nat) (P : Int → Int → Prop) (t : Nat) (h : t < 256 * n) : (P ((t / n : Nat) : Int) ((t % n : Nat) : Int) → (metL n P).getD t 0 = 1) ∧ (¬ P ((t / n : Nat) : Int) ((t % n : Nat) : Int) → (metL n P).getD t 0 = 0) := by
  unfold metL
  rw [List.getD_eq_getElem?_getD, List.getElem?_map, List.getElem?_range h]
  exact ⟨fun hp => if_pos hp, fun hp => if_neg hp⟩
theorem metL_ext (n : Nat) (P : Int → Int → Prop) (M : List Int) (hl : M.length = 256 * n) (h : ∀ t, t < 256 * n → (P ((t / n : Nat) : Int) ((t % n : Nat) : Int) → M.getD t 0 = 1) ∧ (¬ P ((t / n : Nat) : Int) ((t % n : Nat) : Int) → M.getD t 0 = 0)) : M = metL n P := by
  apply ext_getDE (by rw [hl, metL_len])
  intro t ht
  rw [hl] at ht
  have h1 := h t ht
  have h2 := metL_at n P t ht
  by_cases c : P ((t / n : Nat) : Int) ((t % n : Nat) : Int)
  · rw [h1.1 c, h2.1 c]
  · rw [h1.2 c, h2.2 c]
theorem idx_lt {s y n : Nat} (hs : s < 256) (hy : y < n) : s * n + y < 256 * n := by
  have : (s + 1) * n ≤ 256 * n := Nat.mul_le_mul_right n (by omega)
  rw [Nat.add_mul, Nat.one_mul] at this
  omega
theorem idx_dm {s y n : Nat} (hy : y < n) : (s * n + y) / n = s ∧ (s * n + y) % n = y := by
  have e : s * n + y = y + n * s := by rw [Nat.mul_comm, Nat.add_comm]
  rw [e]
  constructor
  · rw [Nat.add_mul_div_left _ _ (by omega), Nat.div_eq_of_lt hy]; omega
  · rw [Nat.add_mul_mod_self_left, Nat.mod_eq_of_lt hy]
theorem metL_get (n : Nat) (P : Int → Int → Prop) (s y : Nat) (hs : s < 256) (hy : y < n) : (P (s : Int) (y : Int) → (metL n P).getD (s * n + y) 0 = 1) ∧ (¬ P (s : Int) (y : Int) → (metL n P).getD (s * n + y) 0 = 0) := by
  have := metL_at n P (s * n + y) (idx_lt hs hy)
  obtain ⟨e1, e2⟩ := idx_dm (s := s) hy
  rw [e1, e2] at this
  exact this
theorem metL_set (n : Nat) (P : Int → Int → Prop) (s y : Nat) (hs : s < 256) (hy : y < n) : (metL n P).set (s * n + y) 1 = metL n (fun a b => P a b ∨ (a = (s : Int) ∧ b = (y : Int))) := by
  apply metL_ext
  · rw [List.length_set, metL_len]
  · intro t ht
    have hn : 0 < n := by omega
    have h1 := metL_at n P t ht
    rw [getD_set _ _ _ _ (by rw [metL_len]; exact idx_lt hs hy)]
    obtain ⟨e1, e2⟩ := idx_dm (s := s) hy
    by_cases c : s * n + y = t
    · rw [if_pos c, ← c, e1, e2]
      exact ⟨fun _ => rfl, fun h => absurd (.inr ⟨rfl, rfl⟩) h⟩
    · rw [if_neg c]
      have hne : ¬ (((t / n : Nat) : Int) = (s : Int) ∧ ((t % n : Nat) : Int) = (y : Int)) := by
        rintro ⟨a, b⟩
        have hd := Nat.div_add_mod t n
        have a : t / n = s := by omega
        have b : t % n = y := by omega
        rw [a, b, Nat.mul_comm] at hd
        exact c hd
      exact ⟨fun h => h1.1 (h.resolve_right hne), fun h => h1.2 (fun h' => h (.inl h'))⟩
theorem metL_0 (n : Nat) : List.replicate (256 * n) 0 = metL n (fun _ _ => False) := by
  apply metL_ext
  · rw [List.length_replicate]
  · intro t ht
    refine ⟨False.elim, fun _ => ?_⟩
    rw [List.getD_eq_getElem?_getD, List.getElem?_replicate, if_pos ht]; rfl
theorem metL_congr (n : Nat) (hn : 0 < n) (P Q : Int → Int → Prop) (h : ∀ s y : Nat, s < 256 → y < n → (P (s : Int) (y : Int) ↔ Q (s : Int) (y : Int))) : metL n P = metL n Q := by
  apply metL_ext
  · rw [metL_len]
  · intro t ht
    have h1 := metL_at n P t ht
    have h2 := h (t / n) (t % n) (by rw [Nat.div_lt_iff_lt_mul hn]; exact ht) (Nat.mod_lt _ hn)
    exact ⟨fun c => h1.1 (h2.2 c), fun c => h1.2 (fun c' => c (h2.1 c'))⟩
theorem whole_l2f (n : Int) (M : List Int) (C : List Cel) (hn : (C.length : Int) = n) (hp : 1 ≤ n) (hm : C.length ≤ 4096) : ∀ (d i : Nat), i + d = C.length → Ev (fun k => dtab_Whole.l2 k n false M C n (i : Int)) false
  | 0, i, hd => by
    refine Ev.step (fun _ => by rw [dtab_Whole.l2]) ?_
    exact ev_neg (by omega) (Ev.now _)
  | d + 1, i, hd => by
    have ih := whole_l2f n M C hn hp hm d (i + 1) (by omega)
    refine Ev.step (fun _ => by rw [dtab_Whole.l2]) ?_
    refine ev_pos (by omega) (ev_pos (by omega) (ev_pos (by omega) ?_))
    refine Ev.step (fun _ => by rw [dtab_Whole.l3]) ?_
    rw [wnext i (by omega)]
    exact ev_pos (by omega) (ev_neg (by decide) ih)
/-- which numbers fit -/
theorem fits_eq {n : Nat} (hm : n ≤ 4096) (h1 : 1 ≤ n) (c : Cel) (hr : c.f0 ≤ 255) (hb : -4611686018427 ≤ c.f2 ∧ c.f2 ≤ 4611686018427) : (Fit n c → dtab_fits.f c.f0 c.f1 c.f2 (n : Int) = some true) ∧ (¬ Fit n c → dtab_fits.f c.f0 c.f1 c.f2 (n : Int) = some false) := by
  unfold dtab_fits.f Fit
  by_cases c1 : c.f1 < 0
  · rw [if_pos c1]; exact ⟨fun h => by omega, fun _ => rfl⟩
  rw [if_neg c1]
  by_cases c2 : c.f1 > 12
  · rw [if_pos c2]; exact ⟨fun h => by omega, fun _ => rfl⟩
  rw [if_neg c2]
  by_cases c3 : c.f2 < 0
  · rw [if_pos c3]; exact ⟨fun h => by omega, fun _ => rfl⟩
  rw [if_neg c3, if_pos (by omega)]
  have hp := p2_12 (show c.f1.toNat ≤ 12 by omega)
  have hp0 := p2_pos c.f1.toNat
  have e : shl .i64 1 c.f1 = p2 c.f1.toNat := by
    have := shl2 1 c.f1.toNat (by omega) (by omega) (by omega)
    rw [Int.one_mul, show ((c.f1.toNat : Nat) : Int) = c.f1 by omega] at this
    exact this
  rw [e, wraps (by omega) (by omega)]
  constructor
  · intro h
    congr 1
    rw [beq_iff_eq]
    unfold mn; rw [if_neg (by omega)]
  · intro h
    congr 1
    rw [beq_eq_false_iff_ne]
    unfold mn; rw [if_pos (by omega)]; omega
section
variable {C : List Cel} {n : Nat} (hn : C.length = n) (hm : n ≤ 4096) (h1 : 1 ≤ n) (hs : ∀ j, j < n → 0 ≤ (C.getD j zc).f0 ∧ (C.getD j zc).f0 ≤ 255)
include hn hm h1 hs
theorem whole_idx (i : Nat) (hi : i < n) (y : Int) (y0 : 0 ≤ y) (y1 : y < n) : ∃ s t : Nat, (C.getD i zc).f0 = (s : Int) ∧ y = (t : Int) ∧ s < 256 ∧ t < n ∧ (C.getD i zc).f0 * (n : Int) + y = ((s * n + t : Nat) : Int) ∧ 0 ≤ (C.getD i zc).f0 * (n : Int) ∧ (C.getD i zc).f0 * (n : Int) + y < 256 * n ∧ (C.getD i zc).f0 * (n : Int) ≤ 1048576 := by
  have := hs i hi
  refine ⟨(C.getD i zc).f0.toNat, y.toNat, by omega, by omega, by omega, by omega, ?_, ?_, ?_, ?_⟩
  · rw [Int.natCast_add, Int.natCast_mul]
    rw [show (((C.getD i zc).f0.toNat : Nat) : Int) = (C.getD i zc).f0 by omega, show ((y.toNat : Nat) : Int) = y by omega]
  · exact Int.mul_nonneg this.1 (by omega)
  · have h2 : ((C.getD i zc).f0 + 1) * (n : Int) ≤ 256 * (n : Int) := Int.mul_le_mul_of_nonneg_right (by omega) (by omega)
    rw [Int.add_mul, Int.one_mul] at h2
    omega
  · have h2 : (C.getD i zc).f0 * (n : Int) ≤ 256 * (n : Int) := Int.mul_le_mul_of_nonneg_right (by omega) (by omega)
    omega
theorem whole_l2 (P : Int → Int → Prop) : ∀ (d i : Nat), i + d = n → (∀ j, j < i → ∀ y : Int, 0 ≤ y → y < (n : Int) → P (C.getD j zc).f0 y) →
    ∃ b, Ev (fun k => dtab_Whole.l2 k (n : Int) true (metL n P) C (n : Int) (i : Int)) b ∧ (b = true ↔ ∀ j, j < n → ∀ y : Int, 0 ≤ y → y < (n : Int) → P (C.getD j zc).f0 y) := by
  intro d
  induction d with
  | zero =>
    intro i hd hP
    refine ⟨true, ?_, ⟨fun _ j hj => hP j (by omega), fun _ => rfl⟩⟩
    refine Ev.step (fun _ => by rw [dtab_Whole.l2]) ?_
    exact ev_neg (by omega) (Ev.now _)
  | succ d ih =>
    intro i hd hP
    have hi : i < n := by omega
    have hin : ∀ (e k : Nat), k + e = n → (∀ y : Int, 0 ≤ y → y < (k : Int) → P (C.getD i zc).f0 y) →
        ∃ b, Ev (fun q => dtab_Whole.l3 q (n : Int) true (metL n P) (k : Int) C (n : Int) (i : Int) (C.getD i zc).f0 (C.getD i zc).f1 (C.getD i zc).f2) b ∧ (b = true ↔ ∀ j, j < n → ∀ y : Int, 0 ≤ y → y < (n : Int) → P (C.getD j zc).f0 y) := by
      intro e
      induction e with
      | zero =>
        intro k hk hc
        obtain ⟨b, b1, b2⟩ := ih (i + 1) (by omega) (fun j hj y y0 y1 => by
          by_cases c : j = i
          · subst c; exact hc y y0 (by omega)
          · exact hP j (by omega) y y0 y1)
        refine ⟨b, ?_, b2⟩
        refine Ev.step (fun _ => by rw [dtab_Whole.l3]) ?_
        rw [wnext i (by omega)]
        exact ev_neg (by omega) b1
      | succ e ihe =>
        intro k hk hc
        obtain ⟨s, t, w1, w2, w3, w4, w5, w6, w7, w8⟩ := whole_idx hn hm h1 hs i hi (k : Int) (by omega) (by omega)
        have hss := hs i hi
        have hg := metL_get n P s t w3 w4
        rw [← w1, ← w2] at hg
        have e1 : wrap64 (wrap64 (wrap64 (C.getD i zc).f0 * (n : Int)) + (k : Int)) = ((s * n + t : Nat) : Int) := by
          rw [wraps (x := (C.getD i zc).f0) (by omega) (by omega), wraps (x := (C.getD i zc).f0 * (n : Int)) (by omega) (by omega), wraps (by omega) (by omega)]; exact w5
        by_cases c : P (C.getD i zc).f0 (k : Int)
        · obtain ⟨b, b1, b2⟩ := ihe (k + 1) (by omega) (fun y y0 y1 => by
            by_cases c2 : y = (k : Int)
            · rw [c2]; exact c
            · exact hc y y0 (by omega))
          refine ⟨b, ?_, b2⟩
          refine Ev.step (fun _ => by rw [dtab_Whole.l3]) ?_
          rw [e1, rd_nat, hg.1 c, wnext k (by omega), metL_len]
          refine ev_pos (by omega) (ev_pos rfl (ev_pos (by omega) (ev_pos (by omega) ?_)))
          exact b1
        · refine ⟨false, ?_, ⟨fun h => (by cases h), fun h => absurd (h i hi (k : Int) (by omega) (by omega)) c⟩⟩
          have hf := whole_l2f (n : Int) (metL n P) C (by omega) (by omega) (by omega) d (i + 1) (by omega)
          refine Ev.step (fun _ => by rw [dtab_Whole.l3]) ?_
          rw [e1, rd_nat, hg.2 c, wnext k (by omega), metL_len]
          refine ev_pos (by omega) (ev_pos rfl (ev_pos (by omega) (ev_pos (by omega) ?_)))
          refine Ev.step (fun _ => by rw [dtab_Whole.l3]) ?_
          rw [wnext i (by omega)]
          by_cases c3 : ((k + 1 : Nat) : Int) < (n : Int)
          · exact ev_pos c3 (ev_neg (by decide) hf)
          · exact ev_neg c3 hf
    obtain ⟨b, b1, b2⟩ := hin n 0 (by omega) (fun y y0 y1 => by omega)
    refine ⟨b, ?_, b2⟩
    refine Ev.step (fun _ => by rw [dtab_Whole.l2]) ?_
    rw [rdC_nat]
    exact ev_pos (by omega) (ev_pos (by omega) (ev_pos (by omega) b1))
theorem whole_l0 (hb : ∀ j, j < n → -4611686018427 ≤ (C.getD j zc).f2 ∧ (C.getD j zc).f2 ≤ 4611686018427) : ∀ (d i : Nat), i + d = n → (∀ j, j < i → Fit n (C.getD j zc)) → (∀ a b, a < b → b < i → ∀ s y, CovP (C.getD a zc) s y → ¬ CovP (C.getD b zc) s y) →
    ∃ b, Ev (fun k => dtab_Whole.l0 k C (n : Int) true (metL n (fun s y => ∃ j, j < i ∧ CovP (C.getD j zc) s y)) C (n : Int) (i : Int)) b ∧ (b = true ↔ WP C) := by
  have hfalse : ∀ M : List Int, Ev (fun k => dtab_Whole.j3 k C (n : Int) false M) false := by
    intro M
    refine Ev.step (fun _ => by rw [dtab_Whole.j3]) ?_
    rw [hn]
    exact whole_l2f (n : Int) M C (by omega) (by omega) (by omega) n 0 (by omega)
  intro d
  induction d with
  | zero =>
    intro i hd hF hD
    obtain rfl : i = n := by omega
    obtain ⟨b, b1, b2⟩ := whole_l2 hn hm h1 hs (fun s y => ∃ j, j < i ∧ CovP (C.getD j zc) s y) i 0 (by omega) (fun j hj => by omega)
    refine ⟨b, ?_, ?_⟩
    · refine Ev.step (fun _ => by rw [dtab_Whole.l0]) ?_
      refine ev_neg (by omega) ?_
      refine Ev.step (fun _ => by rw [dtab_Whole.j3]) ?_
      rw [hn]
      exact b1
    · rw [b2]
      constructor
      · intro h
        exact ⟨fun j hj => by rw [hn]; exact hF j (by omega), fun a b hab hb' => hD a b hab (by omega), fun j hj y y0 y1 => by
          obtain ⟨t, t1, t2⟩ := h j (by omega) y y0 (by omega)
          exact ⟨t, by omega, t2⟩⟩
      · intro h j hj y y0 y1
        obtain ⟨t, t1, t2⟩ := h.all j (by omega) y y0 (by omega)
        exact ⟨t, by omega, t2⟩
  | succ d ih =>
    intro i hd hF hD
    have hi : i < n := by omega
    have hss := hs i hi
    have hbb := hb i hi
    by_cases hfit : Fit n (C.getD i zc)
    · obtain ⟨q1, q2, q3, q4⟩ := hfit
      have hfit : Fit n (C.getD i zc) := ⟨q1, q2, q3, q4⟩
      have hp := p2_12 (show (C.getD i zc).f1.toNat ≤ 12 by omega)
      have hp0 := p2_pos (C.getD i zc).f1.toNat
      have hin : ∀ (e k : Nat), (k : Int) + e = p2 (C.getD i zc).f1.toNat → (∀ y : Int, (C.getD i zc).f2 ≤ y → y < (C.getD i zc).f2 + k → ¬ ∃ j, j < i ∧ CovP (C.getD j zc) (C.getD i zc).f0 y) →
          ∃ b, Ev (fun q => dtab_Whole.l1 q C (n : Int) true (metL n (fun s y => (∃ j, j < i ∧ CovP (C.getD j zc) s y) ∨ (s = (C.getD i zc).f0 ∧ (C.getD i zc).f2 ≤ y ∧ y < (C.getD i zc).f2 + k))) C (n : Int) (i : Int) (p2 (C.getD i zc).f1.toNat) (k : Int) (C.getD i zc).f0 (C.getD i zc).f1 (C.getD i zc).f2) b ∧ (b = true ↔ WP C) := by
        intro e
        induction e with
        | zero =>
          intro k hk hc
          obtain ⟨b, b1, b2⟩ := ih (i + 1) (by omega) (fun j hj => by
            by_cases c : j = i
            · subst c; exact hfit
            · exact hF j (by omega)) (fun a b hab hb' s y ha hb2 => by
            by_cases c : b = i
            · subst c
              obtain ⟨h2, h3, h4⟩ := hb2
              exact hc y h3 (by omega) ⟨a, hab, by rw [h2]; exact ha⟩
            · exact hD a b hab (by omega) s y ha hb2)
          refine ⟨b, ?_, b2⟩
          refine Ev.step (fun _ => by rw [dtab_Whole.l1]) ?_
          rw [wnext i (by omega), metL_congr n (by omega) (fun s y => (∃ j, j < i ∧ CovP (C.getD j zc) s y) ∨ (s = (C.getD i zc).f0 ∧ (C.getD i zc).f2 ≤ y ∧ y < (C.getD i zc).f2 + k)) (fun s y => ∃ j, j < i + 1 ∧ CovP (C.getD j zc) s y)]
          · exact ev_neg (by omega) b1
          · intro s y _ _
            constructor
            · rintro (⟨j, j1, j2⟩ | ⟨h2, h3, h4⟩)
              · exact ⟨j, by omega, j2⟩
              · exact ⟨i, by omega, h2.symm, h3, by omega⟩
            · rintro ⟨j, j1, j2⟩
              by_cases c : j = i
              · subst c
                obtain ⟨h2, h3, h4⟩ := j2
                exact .inr ⟨h2.symm, h3, by omega⟩
              · exact .inl ⟨j, by omega, j2⟩
        | succ e ihe =>
          intro k hk hc
          obtain ⟨s, t, w1, w2, w3, w4, w5, w6, w7, w8⟩ := whole_idx hn hm h1 hs i hi ((C.getD i zc).f2 + k) (by omega) (by omega)
          have hg := metL_get n (fun s y => (∃ j, j < i ∧ CovP (C.getD j zc) s y) ∨ (s = (C.getD i zc).f0 ∧ (C.getD i zc).f2 ≤ y ∧ y < (C.getD i zc).f2 + k)) s t w3 w4
          have hst := metL_set n (fun s y => (∃ j, j < i ∧ CovP (C.getD j zc) s y) ∨ (s = (C.getD i zc).f0 ∧ (C.getD i zc).f2 ≤ y ∧ y < (C.getD i zc).f2 + k)) s t w3 w4
          rw [← w1, ← w2] at hg hst
          have e1 : wrap64 (wrap64 (wrap64 (wrap64 (C.getD i zc).f0 * (n : Int)) + (C.getD i zc).f2) + (k : Int)) = ((s * n + t : Nat) : Int) := by
            rw [wraps (x := (C.getD i zc).f0) (by omega) (by omega), wraps (x := (C.getD i zc).f0 * (n : Int)) (by omega) (by omega), wraps (x := (C.getD i zc).f0 * (n : Int) + (C.getD i zc).f2) (by omega) (by omega), wraps (by omega) (by omega)]; omega
          by_cases c : ∃ j, j < i ∧ CovP (C.getD j zc) (C.getD i zc).f0 ((C.getD i zc).f2 + k)
          · refine ⟨false, ?_, ⟨fun h => (by cases h), fun h => ?_⟩⟩
            · refine Ev.step (fun _ => by rw [dtab_Whole.l1]) ?_
              rw [e1, rd_nat, hg.1 (.inl c), metL_len]
              exact ev_pos (by omega) (ev_pos (by omega) (ev_pos (by omega) (ev_neg (by decide) (hfalse _))))
            · obtain ⟨j, j1, j2⟩ := c
              exact absurd ⟨rfl, by omega, by omega⟩ (h.dis j i j1 (by omega) _ _ j2)
          · obtain ⟨b, b1, b2⟩ := ihe (k + 1) (by omega) (fun y y0 y1 => by
              by_cases c2 : y = (C.getD i zc).f2 + k
              · rw [c2]; exact c
              · exact hc y y0 (by omega))
            refine ⟨b, ?_, b2⟩
            refine Ev.step (fun _ => by rw [dtab_Whole.l1]) ?_
            rw [e1, rd_nat, hg.2 (fun h => h.elim c (fun h => by omega)), metL_len, Int.toNat_natCast, hst, wnext k (by omega)]
            refine ev_pos (by omega) (ev_pos (by omega) (ev_pos (by omega) (ev_pos rfl ?_)))
            rw [metL_congr n (by omega) _ (fun s y => (∃ j, j < i ∧ CovP (C.getD j zc) s y) ∨ (s = (C.getD i zc).f0 ∧ (C.getD i zc).f2 ≤ y ∧ y < (C.getD i zc).f2 + ((k + 1 : Nat) : Int)))]
            · exact b1
            · intro s' y' _ _
              constructor
              · rintro ((h | ⟨h2, h3, h4⟩) | ⟨h2, h3⟩)
                · exact .inl h
                · exact .inr ⟨h2, h3, by omega⟩
                · exact .inr ⟨h2, by omega, by omega⟩
              · rintro (h | ⟨h2, h3, h4⟩)
                · exact .inl (.inl h)
                · by_cases c2 : (y' : Int) = (C.getD i zc).f2 + k
                  · exact .inr ⟨h2, c2⟩
                  · exact .inl (.inr ⟨h2, h3, by omega⟩)
      obtain ⟨b, b1, b2⟩ := hin (p2 (C.getD i zc).f1.toNat).toNat 0 (by omega) (fun y y0 y1 => by omega)
      refine ⟨b, ?_, b2⟩
      refine Ev.step (fun _ => by rw [dtab_Whole.l0]) ?_
      rw [rdC_nat]
      refine ev_pos (by omega) (ev_pos (by omega) (ev_pos (by omega) (ev_obind ((fits_eq hm h1 _ hss.2 hbb).1 hfit) (ev_pos rfl (ev_pos q1 ?_)))))
      have e : shl .i64 1 (C.getD i zc).f1 = p2 (C.getD i zc).f1.toNat := by
        have := shl2 1 (C.getD i zc).f1.toNat (by omega) (by omega) (by omega)
        rw [Int.one_mul, show (((C.getD i zc).f1.toNat : Nat) : Int) = (C.getD i zc).f1 by omega] at this
        exact this
      rw [e, metL_congr n (by omega) _ (fun s y => (∃ j, j < i ∧ CovP (C.getD j zc) s y) ∨ (s = (C.getD i zc).f0 ∧ (C.getD i zc).f2 ≤ y ∧ y < (C.getD i zc).f2 + ((0 : Nat) : Int)))]
      · exact b1
      · intro s y _ _
        exact ⟨.inl, fun h => h.elim id (fun h => by omega)⟩
    · refine ⟨false, ?_, ⟨fun h => (by cases h), fun h => absurd (by have := h.fit i (by omega); rw [hn] at this; exact this) hfit⟩⟩
      refine Ev.step (fun _ => by rw [dtab_Whole.l0]) ?_
      rw [rdC_nat]
      exact ev_pos (by omega) (ev_pos (by omega) (ev_pos (by omega) (ev_obind ((fits_eq hm h1 _ hss.2 hbb).2 hfit) (ev_neg (by decide) (hfalse _)))))
end
theorem and_pow (r : Nat) (h0 : 1 ≤ r) (h : r ≤ 12) : Go.bits .and .i64 (p2 r) (wrap64 (p2 r - 1)) = 0 := by
  have : r = 1 ∨ r = 2 ∨ r = 3 ∨ r = 4 ∨ r = 5 ∨ r = 6 ∨ r = 7 ∨ r = 8 ∨ r = 9 ∨ r = 10 ∨ r = 11 ∨ r = 12 := by omega
  rcases this with rfl | rfl | rfl | rfl | rfl | rfl | rfl | rfl | rfl | rfl | rfl | rfl <;> decide +kernel
theorem whole_ev {C : List Cel} {r : Nat} (h0 : 1 ≤ r) (hr : r ≤ 12) (hl : (C.length : Int) = p2 r) (hs : ∀ j, j < C.length → 0 ≤ (C.getD j zc).f0 ∧ (C.getD j zc).f0 ≤ 255) (hb : ∀ j, j < C.length → -4611686018427 ≤ (C.getD j zc).f2 ∧ (C.getD j zc).f2 ≤ 4611686018427) :
    ∃ b, Ev (fun k => dtab_Whole.f k C) b ∧ (b = true ↔ WP C) := by
  have hp := p2_12 hr
  have hp1 : 2 ≤ p2 r := by have := p2_mono h0; rw [p2_1] at this; exact this
  obtain ⟨b, b1, b2⟩ := whole_l0 rfl (by omega) (by omega) hs hb C.length 0 (by omega) (fun j hj => by omega) (fun a b hab hb => by omega)
  refine ⟨b, ?_, b2⟩
  unfold dtab_Whole.f
  refine ev_neg (by omega) (ev_neg (by omega) ?_)
  refine Ev.step (fun _ => by rw [dtab_Whole.j0]) ?_
  rw [hl, and_pow r h0 hr, ← hl]
  refine ev_neg (by decide) ?_
  rw [wraps (by omega) (by omega)]
  refine ev_pos (by omega) (ev_pos (by omega) ?_)
  rw [show (256 * (C.length : Int)).toNat = 256 * C.length by omega, metL_0, metL_congr C.length (by omega) _ (fun s y => ∃ j, j < 0 ∧ CovP (C.getD j zc) s y)]
  · exact b1
  · intro s y _ _
    exact ⟨False.elim, fun ⟨j, hj, _⟩ => by omega⟩
end Go.Proofs.Ytjbpmlpmfbeobaa
