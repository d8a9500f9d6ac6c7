/- The layer dtab, plainly: the cells of normalized counts, and when cells are whole; what the printed functions of the layer come to. -/
import Derived.Test.YtjgmilkgklellaaPs
import Derived.Test.YtjgmilkgklellaaLw
import Derived.Test.YtjgmilkgklellaaPPrx12
import Derived.Test.YtjgmilkgklellaaPPrx13
namespace Go.Proofs.Ytjgmilkgklellaa
open Go.RowKit Go.Proofs.YtjgmilkgklellaaW.PrintWords Go.Proofs.YtjgmilkgklellaaW.PrintMore PPr HK
set_option linter.unusedSimpArgs false
set_option linter.unusedVariables false
abbrev Cel := S49
abbrev zc : Cel := z49
theorem p2_add (a b : Nat) : p2 (a + b) = p2 a * p2 b := by unfold p2; rw [Nat.pow_add, Int.natCast_mul]
theorem p2_12 {k : Nat} (h : k ≤ 12) : p2 k ≤ 4096 := by have := p2_mono h; have e : p2 12 = 4096 := by decide
                                                         omega
theorem shl2 (x : Int) (a : Nat) (h0 : 0 ≤ x) (ha : a ≤ 12) (hx : x ≤ 1125899906842624) : shl .i64 x (a : Int) = x * p2 a := by
  rw [shlE x a h0 (by omega) hx, Int.toNat_natCast, pow_p2]
theorem IsN.p2 {q : List Int} {r : Nat} (h : IsN q r) : q.sum = p2 r := by rw [h.sm, pow_p2]
/-- how many bits -/
def kb (r : Nat) (i : Int) : Nat := r - (fll i).toNat
def cellK (r : Nat) (x : S) : Cel := ⟨x.f2, (kb r x.f0 : Int), x.f0 * p2 (kb r x.f0) - p2 r⟩
/-- the log of a count, and of its keys -/
structure KeyLog (r K : Nat) (n i : Int) : Prop where
  n0 : p2 K ≤ n
  n1 : n < p2 (K + 1)
  Kr : K ≤ r
  or : (fll i = (K : Int) ∧ i < p2 (K + 1)) ∨ (fll i = ((K + 1 : Nat) : Int) ∧ p2 (K + 1) ≤ i ∧ K + 1 ≤ r)
theorem keyLog {r : Nat} {n i : Int} (h0 : 1 ≤ n) (h1 : n ≤ p2 r) (hr : r ≤ 12) (hi0 : n ≤ i) (hi1 : i < 2 * n) : KeyLog r (fll n).toNat n i := by
  have hb := p2_12 hr
  obtain ⟨a, b, _⟩ := fll_spec n h0 (by omega)
  have hf := fll_bd n
  have c : (fll n).toNat ≤ r := by
    have := p2_lt (show p2 (fll n).toNat < p2 (r + 1) by rw [p2_succ]; have := p2_pos r; omega)
    omega
  refine ⟨a, b, c, ?_⟩
  rcases Int.lt_or_le i (p2 ((fll n).toNat + 1)) with h | h
  · exact .inl ⟨fll_of i _ (by omega) h (by omega), h⟩
  · have h2 : i < p2 ((fll n).toNat + 1 + 1) := by rw [p2_succ]; omega
    refine .inr ⟨fll_of i _ h h2 (by omega), h, ?_⟩
    have := p2_lt (show p2 ((fll n).toNat + 1) < p2 (r + 1) by rw [p2_succ r]; omega)
    omega
theorem key_fll {r : Nat} {i : Int} (h0 : 1 ≤ i) (h1 : i < 2 * p2 r) (hr : r ≤ 12) : ∃ F : Nat, fll i = (F : Int) ∧ p2 F ≤ i ∧ i < p2 (F + 1) ∧ F ≤ r ∧ p2 F * p2 (r - F) = p2 r ∧ kb r i = r - F := by
  have hb := p2_12 hr
  obtain ⟨a, b, _⟩ := fll_spec i h0 (by omega)
  have hf := fll_bd i
  have c : (fll i).toNat ≤ r := by
    have := p2_lt (show p2 (fll i).toNat < p2 (r + 1) by rw [p2_succ]; omega)
    omega
  exact ⟨(fll i).toNat, by omega, a, b, c, by rw [← p2_add]; congr 1; omega, rfl⟩
/-- a cell lies among the states -/
theorem cell_in {r : Nat} {i : Int} (h0 : 1 ≤ i) (h1 : i < 2 * p2 r) (hr : r ≤ 12) : p2 r ≤ i * p2 (kb r i) ∧ (i + 1) * p2 (kb r i) ≤ 2 * p2 r ∧ kb r i ≤ r := by
  obtain ⟨F, e, a, b, c, d, k⟩ := key_fll h0 h1 hr
  have hp := p2_pos (r - F)
  rw [k]
  refine ⟨?_, ?_, by omega⟩
  · rw [← d]; exact Int.mul_le_mul_of_nonneg_right a (by omega)
  · have h2 : (i + 1) * p2 (r - F) ≤ p2 (F + 1) * p2 (r - F) := Int.mul_le_mul_of_nonneg_right (by omega) (by omega)
    rw [p2_succ, Int.mul_assoc, d] at h2
    exact h2
theorem tile_ex {r : Nat} {n y : Int} (h0 : 1 ≤ n) (h1 : n ≤ p2 r) (hr : r ≤ 12) (hy0 : p2 r ≤ y) (hy1 : y < 2 * p2 r) : ∃ i, n ≤ i ∧ i < 2 * n ∧ i * p2 (kb r i) ≤ y ∧ y < (i + 1) * p2 (kb r i) := by
  have hb := p2_12 hr
  have L := keyLog h0 h1 hr (Int.le_refl n) (by omega)
  obtain ⟨K, hK⟩ : ∃ K, (fll n).toNat = K := ⟨_, rfl⟩
  rw [hK] at L
  have hPp := p2_pos (r - K)
  have e1 : p2 K * p2 (r - K) = p2 r := by rw [← p2_add]; congr 1; have := L.Kr; omega
  have a1 := L.n0
  have a2 := L.n1
  have a3 := p2_succ K
  by_cases c : n * p2 (r - K) ≤ y
  · have i0 : n ≤ y / p2 (r - K) := (Int.le_ediv_iff_mul_le (by omega)).2 c
    have i1 : y / p2 (r - K) < p2 (K + 1) := (Int.ediv_lt_iff_lt_mul (by omega)).2 (by rw [p2_succ, Int.mul_assoc, e1]; exact hy1)
    have hf : fll (y / p2 (r - K)) = (K : Int) := fll_of _ K (by omega) i1 (by omega)
    have hk : kb r (y / p2 (r - K)) = r - K := by unfold kb; rw [hf, Int.toNat_natCast]
    refine ⟨y / p2 (r - K), i0, by omega, ?_, ?_⟩
    · rw [hk]; exact Int.ediv_mul_le y (by omega)
    · rw [hk]; exact Int.lt_ediv_add_one_mul_self y (by omega)
  · have hKr : K + 1 ≤ r := by
      rcases Nat.lt_or_ge K r with h | h
      · exact h
      · exfalso
        have e : r - K = 0 := by omega
        rw [e, p2_0, Int.mul_one] at c
        omega
    have e2 : p2 (r - K) = 2 * p2 (r - (K + 1)) := by rw [← p2_succ]; congr 1; omega
    have hQ := p2_pos (r - (K + 1))
    have e3 : p2 (K + 1) * p2 (r - (K + 1)) = p2 r := by rw [← p2_add]; congr 1; omega
    have i0 : p2 (K + 1) ≤ y / p2 (r - (K + 1)) := (Int.le_ediv_iff_mul_le (by omega)).2 (by rw [e3]; exact hy0)
    have i1 : y / p2 (r - (K + 1)) < 2 * n := (Int.ediv_lt_iff_lt_mul (by omega)).2 (by
      rw [e2, Int.mul_comm n, Int.mul_assoc, Int.mul_comm _ n, ← Int.mul_assoc] at c
      omega)
    have hf : fll (y / p2 (r - (K + 1))) = ((K + 1 : Nat) : Int) := fll_of _ (K + 1) i0 (by rw [p2_succ]; omega) (by omega)
    have hk : kb r (y / p2 (r - (K + 1))) = r - (K + 1) := by unfold kb; rw [hf, Int.toNat_natCast]
    refine ⟨y / p2 (r - (K + 1)), by omega, i1, ?_, ?_⟩
    · rw [hk]; exact Int.ediv_mul_le y (by omega)
    · rw [hk]; exact Int.lt_ediv_add_one_mul_self y (by omega)
theorem tile_one {r : Nat} {n y i j : Int} (h0 : 1 ≤ n) (h1 : n ≤ p2 r) (hr : r ≤ 12) (hi0 : n ≤ i) (hi1 : i < 2 * n) (hj0 : n ≤ j) (hj1 : j < 2 * n)
    (a1 : i * p2 (kb r i) ≤ y) (a2 : y < (i + 1) * p2 (kb r i)) (b1 : j * p2 (kb r j) ≤ y) (b2 : y < (j + 1) * p2 (kb r j)) : i = j := by
  have hsame : ∀ P : Int, 0 < P → ∀ u v : Int, u * P ≤ y → y < (u + 1) * P → v * P ≤ y → y < (v + 1) * P → u = v := by
    intro P hP u v c1 c2 c3 c4
    have d1 : u < v + 1 := Int.lt_of_mul_lt_mul_right (Int.lt_of_le_of_lt c1 c4) (by omega)
    have d2 : v < u + 1 := Int.lt_of_mul_lt_mul_right (Int.lt_of_le_of_lt c3 c2) (by omega)
    omega
  have Li := keyLog h0 h1 hr hi0 hi1
  have Lj := keyLog h0 h1 hr hj0 hj1
  obtain ⟨K, hK⟩ : ∃ K, (fll n).toNat = K := ⟨_, rfl⟩
  rw [hK] at Li Lj
  have hmix : ∀ u v : Int, n ≤ u → v < 2 * n → K + 1 ≤ r → u * p2 (r - K) ≤ y → y < (v + 1) * p2 (r - (K + 1)) → False := by
    intro u v c1 c2 c3 c4 c5
    have e2 : p2 (r - K) = 2 * p2 (r - (K + 1)) := by rw [← p2_succ]; congr 1; omega
    have hQ := p2_pos (r - (K + 1))
    have d1 : n * p2 (r - K) ≤ u * p2 (r - K) := Int.mul_le_mul_of_nonneg_right c1 (by omega)
    have d2 : (v + 1) * p2 (r - (K + 1)) ≤ (2 * n) * p2 (r - (K + 1)) := Int.mul_le_mul_of_nonneg_right (by omega) (by omega)
    rw [e2, ← Int.mul_assoc, Int.mul_comm n 2] at d1
    rw [e2] at c4
    omega
  have ek : ∀ u F, fll u = ((F : Nat) : Int) → kb r u = r - F := by intro u F h; unfold kb; rw [h, Int.toNat_natCast]
  rcases Li.or with ⟨c, _⟩ | ⟨c, _, c'⟩
  · rcases Lj.or with ⟨d, _⟩ | ⟨d, _, d'⟩
    · rw [ek i K c] at a1 a2
      rw [ek j K d] at b1 b2
      exact hsame _ (by have := p2_pos (r - K); omega) i j a1 a2 b1 b2
    · rw [ek i K c] at a1 a2
      rw [ek j _ d] at b1 b2
      exact (hmix i j hi0 hj1 d' a1 b2).elim
  · rcases Lj.or with ⟨d, _⟩ | ⟨d, _, d'⟩
    · rw [ek i _ c] at a1 a2
      rw [ek j K d] at b1 b2
      exact (hmix j i hj0 hi1 c' b1 a2).elim
    · rw [ek i _ c] at a1 a2
      rw [ek j _ d] at b1 b2
      exact hsame _ (by have := p2_pos (r - (K + 1)); omega) i j a1 a2 b1 b2
/-- a key of these counts, its numbers -/
theorem IsKey.bds {q : List Int} {r : Nat} (hq : IsN q r) {x : S} (hx : IsKey q x) : 1 ≤ x.f1 ∧ x.f1 ≤ p2 r ∧ x.f1 ≤ x.f0 ∧ x.f0 < 2 * x.f1 := by
  have h := hx.right hq.nq
  have h1 := h.q0
  have h2 := h.i0
  have h3 := h.i1
  obtain ⟨s, i, k1, k2, k3, rfl⟩ := hx
  have := (getD_pos_take q hq.nq.len ((rightB_iff q).1 hq.R).2.1 s).2
  rw [hq.p2] at this
  exact ⟨h1, this, h2, h3⟩
/-! cells that are whole -/
def CovP (c : Cel) (s y : Int) : Prop := c.f0 = s ∧ c.f2 ≤ y ∧ y < c.f2 + p2 c.f1.toNat
def Fit (n : Int) (c : Cel) : Prop := 0 ≤ c.f1 ∧ c.f1 ≤ 12 ∧ 0 ≤ c.f2 ∧ c.f2 + p2 c.f1.toNat ≤ n
structure WP (C : List Cel) : Prop where
  fit : ∀ j, j < C.length → Fit C.length (C.getD j zc)
  dis : ∀ i j, i < j → j < C.length → ∀ s y, CovP (C.getD i zc) s y → ¬ CovP (C.getD j zc) s y
  all : ∀ j, j < C.length → ∀ y : Int, 0 ≤ y → y < (C.length : Int) → ∃ i, i < C.length ∧ CovP (C.getD i zc) (C.getD j zc).f0 y
def celL (r : Nat) (L : List S) : List Cel := L.map (cellK r)
theorem celL_len (r : Nat) (L : List S) : (celL r L).length = L.length := by simp [celL]
theorem celL_get (r : Nat) (L : List S) (i : Nat) (h : i < L.length) : (celL r L).getD i zc = cellK r (L.getD i z) := mapL_getD zc _ L i h
theorem cellK_fit {q : List Int} {r : Nat} (hq : IsN q r) {x : S} (hx : IsKey q x) : Fit (p2 r) (cellK r x) := by
  obtain ⟨a, b, c, d⟩ := hx.bds hq
  obtain ⟨e, f, g⟩ := cell_in (r := r) (i := x.f0) (by omega) (by omega) hq.r1
  have hr := hq.r1
  rw [Int.add_mul, Int.one_mul] at f
  unfold Fit cellK
  refine ⟨by dsimp only; omega, by dsimp only; omega, by dsimp only; omega, ?_⟩
  dsimp only
  rw [Int.toNat_natCast]
  omega
theorem cellK_cov {r : Nat} (x : S) (s y : Int) : CovP (cellK r x) s y ↔ x.f2 = s ∧ x.f0 * p2 (kb r x.f0) ≤ y + p2 r ∧ y + p2 r < (x.f0 + 1) * p2 (kb r x.f0) := by
  unfold CovP cellK
  dsimp only
  rw [Int.toNat_natCast, Int.add_mul, Int.one_mul]
  constructor
  · rintro ⟨a, b, c⟩; exact ⟨a, by omega, by omega⟩
  · rintro ⟨a, b, c⟩; exact ⟨a, by omega, by omega⟩
/-- just one cell covers a state -/
theorem cov_one {q : List Int} {r : Nat} (hq : IsN q r) {L : List S} (hL : OrdL q L) {i j : Nat} (hi : i < L.length) (hj : j < L.length) {s y : Int} (a : CovP (cellK r (L.getD i z)) s y) (b : CovP (cellK r (L.getD j z)) s y) : i = j := by
  have ki := hL.key i hi
  have kj := hL.key j hj
  have pi := hL.s.place hq.nq i hi
  have pj := hL.s.place hq.nq j hj
  generalize L.getD i z = x at a ki pi
  generalize L.getD j z = x' at b kj pj
  rw [cellK_cov] at a b
  have e : x.f2 = x'.f2 := by omega
  have e1 := ki.same kj e
  obtain ⟨a1, a2, a3, a4⟩ := ki.bds hq
  obtain ⟨b1, b2, b3, b4⟩ := kj.bds hq
  have := tile_one a1 a2 hq.r1 a3 a4 (by omega) (by omega) a.2.1 a.2.2 b.2.1 b.2.2
  rw [← pi, ← pj, ki.eq kj e this]
theorem cov_ex {q : List Int} {r : Nat} (hq : IsN q r) {L : List S} (hL : OrdL q L) (s : Nat) (hs : s < 256) (h0 : 0 < q.getD s 0) (y : Int) (y0 : 0 ≤ y) (y1 : y < p2 r) : ∃ i, i < L.length ∧ CovP (cellK r (L.getD i z)) (s : Int) y := by
  have hb := (getD_pos_take q hq.nq.len ((rightB_iff q).1 hq.R).2.1 s).2
  rw [hq.p2] at hb
  obtain ⟨i, c1, c2, c3, c4⟩ := tile_ex (n := q.getD s 0) (y := y + p2 r) (by omega) hb hq.r1 (by omega) (by omega)
  have hx : IsKey q (key q s i) := ⟨s, i, hs, c1, c2, rfl⟩
  obtain ⟨d1, d2⟩ := hL.s.there hq.nq hx
  exact ⟨_, d1, by rw [d2, cellK_cov]; exact ⟨rfl, c3, c4⟩⟩
theorem cells_whole {q : List Int} {r : Nat} (hq : IsN q r) {L : List S} (hL : OrdL q L) : WP (celL r L) := by
  have hl := hL.len hq.nq
  rw [hq.p2] at hl
  refine ⟨fun j hj => ?_, fun i j hij hj s y hi hj' => ?_, fun j hj y y0 y1 => ?_⟩
  · rw [celL_len] at hj ⊢
    rw [celL_get r L j hj, hl]
    exact cellK_fit hq (hL.key j hj)
  · rw [celL_len] at hj
    rw [celL_get r L j hj] at hj'
    rw [celL_get r L i (by omega)] at hi
    have := cov_one hq hL (show i < L.length by omega) hj hi hj'
    omega
  · rw [celL_len] at hj y1
    rw [celL_get r L j hj]
    obtain ⟨s, i, k1, k2, k3, e⟩ := hL.key j hj
    rw [e]
    obtain ⟨t, t1, t2⟩ := cov_ex hq hL s k1 (by omega) y y0 (by omega)
    refine ⟨t, by rw [celL_len]; exact t1, ?_⟩
    rw [celL_get r L t t1]
    exact t2
theorem floorF (v : Int) (h0 : -9223372036854775808 ≤ v) (h1 : v ≤ 9223372036854775807) : logs_Floor.f v = some (fll v) := by
  have hb := wid_bd v
  unfold logs_Floor.f logs_Width.f
  rw [if_pos ⟨h0, h1⟩, Option.bind_some, wraps (by omega) (by omega)]
  unfold fll mx
  rfl
/-- the running counts -/
def runL (q : List Int) (L : List S) (i : Nat) : List Int := (List.range 256).map fun (s : Nat) => q.getD s 0 + (cntTo L (s : Int) i : Int)
theorem runL_len (q : List Int) (L : List S) (i : Nat) : (runL q L i).length = 256 := by simp [runL]
theorem runL_get (q : List Int) (L : List S) (i s : Nat) (hs : s < 256) : (runL q L i).getD s 0 = q.getD s 0 + (cntTo L (s : Int) i : Int) := mapR_get _ s hs
theorem runL_0 (q : List Int) (L : List S) (hl : q.length = 256) : runL q L 0 = q := by
  apply ext_getDE (by rw [runL_len, hl])
  intro s hs
  rw [runL_len] at hs
  rw [runL_get q L 0 s hs]
  show q.getD s 0 + 0 = q.getD s 0
  omega
theorem runL_set (q : List Int) (L : List S) (i s : Nat) (hi : i < L.length) (hs : s < 256) (e : (L.getD i z).f2 = (s : Int)) : (runL q L i).set s (q.getD s 0 + (cntTo L (s : Int) i : Int) + 1) = runL q L (i + 1) := by
  apply ext_getDE (by rw [List.length_set, runL_len, runL_len])
  intro t ht
  rw [List.length_set, runL_len] at ht
  rw [getD_set _ _ _ _ (by rw [runL_len]; exact hs), runL_get q L i t ht, runL_get q L (i + 1) t ht, cntTo_succ L _ i hi]
  by_cases c : s = t
  · subst c
    rw [if_pos rfl, if_pos e]; omega
  · rw [if_neg c, if_neg (by omega)]; omega
theorem dtabOf_from {q : List Int} {r : Nat} (hq : IsN q r) {L : List S} (hL : OrdL q L) : ∀ (d i : Nat), i + d = L.length →
    Ev (fun k => dtab_Of.l0 k (r : Int) (runL q L i) (celL r (L.take i)) (symL L) (L.length : Int) (i : Int)) (celL r L, 0)
  | 0, i, hd => by
    refine Ev.step (fun _ => by rw [dtab_Of.l0]) ?_
    refine ev_neg (by omega) ?_
    rw [List.take_of_length_le (by omega)]
    exact Ev.now _
  | d + 1, i, hd => by
    have hN := hq.nq
    have hl := hL.len hN
    have hsm := hN.sm
    have hr1 := hq.r1
    have ih := dtabOf_from hq hL d (i + 1) (by omega)
    have hi : i < L.length := by omega
    have hk := hL.key i hi
    obtain ⟨b1, b2, b3, b4⟩ := hk.bds hq
    have hpr := p2_12 hr1
    obtain ⟨F, e, f1, f2, f3, f4, f5⟩ := key_fll (r := r) (i := (L.getD i z).f0) (by omega) (by omega) hr1
    obtain ⟨g1, g2, g3⟩ := cell_in (r := r) (i := (L.getD i z).f0) (by omega) (by omega) hr1
    obtain ⟨s, hs, es⟩ : ∃ s : Nat, s < 256 ∧ (L.getD i z).f2 = (s : Int) := by have := hk.sym; exact ⟨(L.getD i z).f2.toNat, by omega, by omega⟩
    have hf := cntTo_key hL hN i hi s hs es
    have hset := runL_set q L i s hi hs es
    have htake : celL r (L.take (i + 1)) = celL r (L.take i) ++ [cellK r (L.getD i z)] := by
      unfold celL
      rw [List.take_succ_eq_append_getElem hi, List.map_append, List.getD_eq_getElem?_getD, List.getElem?_eq_getElem hi]
      rfl
    rw [htake] at ih
    refine Ev.step (fun _ => by rw [dtab_Of.l0]) ?_
    rw [symL_len, rd_nat (symL L) i, symL_get L i hi, es, rd_nat (runL q L i) s, runL_get q L i s hs, runL_len, ← hf, wnext i (by omega)]
    refine ev_pos (by omega) (ev_pos (by omega) (ev_pos (by omega) (ev_pos (by omega) (ev_pos (by omega) (ev_obind (floorF _ (by omega) (by omega)) ?_)))))
    have ew : wrap64 ((r : Int) - fll (L.getD i z).f0) = (kb r (L.getD i z).f0 : Int) := by rw [e, f5]; exact w64' (by omega) (by omega) (by omega)
    rw [ew]
    refine ev_pos (by omega) (ev_pos (by omega) (ev_pos (by rw [celL_len, List.length_take]; omega) ?_))
    have hm : (L.getD i z).f0 * p2 (kb r (L.getD i z).f0) ≤ 8192 := by rw [Int.add_mul, Int.one_mul] at g2; have := p2_pos (kb r (L.getD i z).f0); omega
    have hp := p2_pos r
    rw [shl2 (L.getD i z).f0 (kb r (L.getD i z).f0) (by omega) (by omega) (by omega), shl2 1 r (by omega) hr1 (by omega), Int.one_mul, Int.toNat_natCast, wraps (by omega) (by omega), wraps (by omega) (by omega), show (⟨(s : Int), (kb r (L.getD i z).f0 : Int), (L.getD i z).f0 * p2 (kb r (L.getD i z).f0) - p2 r⟩ : Cel) = cellK r (L.getD i z) by unfold cellK; rw [es]]
    rw [hf, hset]
    exact ih
theorem dtabOf_ev {q : List Int} {r : Nat} (hq : IsN q r) {L : List S} (hL : OrdL q L) : Ev (fun k => dtab_Of.f k q) (celL r L, 0) := by
  have hN := hq.nq
  have hl := hN.len
  have := dtabOf_from hq hL L.length 0 (by omega)
  unfold dtab_Of.f
  refine Ev.bind (spreadOf_ev hq hL) (ev_pos rfl (Ev.bind (spreadLog_ev q (by omega)) (ev_obind rfl (ev_pos (by show 0 + q.length < _; omega) ?_))))
  dsimp only
  rw [hq.lg, List.nil_append, symL_len]
  rw [runL_0 q L hl] at this
  exact this
theorem dtabOf_no {q : List Int} (hm : q.length ≤ 4611686018427387000) (h : lg (totZ q) 12 1 = (0, false)) : Ev (fun k => dtab_Of.f k q) (([] : List Cel), 1) := by
  unfold dtab_Of.f
  exact Ev.bind (spreadOf_no hm h) (ev_neg (by decide) (Ev.now _))
theorem rdC_nat (C : List Cel) (i : Nat) : rd_T49 C (i : Int) = C.getD i zc := rfl
theorem shr_zero (m : Int) (b : Nat) (h0 : 0 ≤ m) (hb : b ≤ 12) : (shr .u32 m (b : Int) = 0) ↔ m < p2 b := by
  unfold shr
  rw [Nat.min_eq_left (show (b : Int).toNat ≤ IntKind.u32.bits by show (b : Int).toNat ≤ 32; omega), Int.toNat_natCast, pow_p2]
  have hp := p2_pos b
  constructor
  · intro h
    have := Int.lt_ediv_add_one_mul_self m (show 0 < p2 b by omega)
    rw [h] at this
    omega
  · intro h
    exact Int.ediv_eq_zero_of_lt h0 h
theorem step_yes (C : List Cel) (i : Nat) (m : Int) (hi : i < C.length) (h0 : 0 ≤ m) (hf : 0 ≤ (C.getD i zc).f1 ∧ (C.getD i zc).f1 ≤ 12) (hm : m < p2 (C.getD i zc).f1.toNat) (hb : -4611686018427 ≤ (C.getD i zc).f2 ∧ (C.getD i zc).f2 ≤ 4611686018427) : dtab_Step.f C (i : Int) m = some ((C.getD i zc).f0, (C.getD i zc).f2 + m, true) := by
  have hp := p2_12 (show (C.getD i zc).f1.toNat ≤ 12 by omega)
  have hs := (shr_zero m (C.getD i zc).f1.toNat h0 (by omega)).2 hm
  rw [show (((C.getD i zc).f1.toNat : Nat) : Int) = (C.getD i zc).f1 by omega] at hs
  unfold dtab_Step.f
  rw [rdC_nat, if_neg (by omega), if_neg (by omega), if_pos (by omega), if_pos (by omega), if_neg (by omega), if_neg (by omega), if_pos (by omega), if_pos hs, wraps (x := m) (by omega) (by omega), wraps (by omega) (by omega)]
theorem step_no (C : List Cel) (i : Nat) (m : Int) (hi : i < C.length) (h0 : 0 ≤ m) (hf : 0 ≤ (C.getD i zc).f1 ∧ (C.getD i zc).f1 ≤ 12) (hm : ¬ m < p2 (C.getD i zc).f1.toNat) : dtab_Step.f C (i : Int) m = some (0, 0, false) := by
  have hs := fun h => hm ((shr_zero m (C.getD i zc).f1.toNat h0 (by omega)).1 h)
  rw [show (((C.getD i zc).f1.toNat : Nat) : Int) = (C.getD i zc).f1 by omega] at hs
  unfold dtab_Step.f
  rw [rdC_nat, if_neg (by omega), if_neg (by omega), if_pos (by omega), if_pos (by omega), if_neg (by omega), if_neg (by omega), if_pos (by omega), if_neg hs]
end Go.Proofs.Ytjgmilkgklellaa
