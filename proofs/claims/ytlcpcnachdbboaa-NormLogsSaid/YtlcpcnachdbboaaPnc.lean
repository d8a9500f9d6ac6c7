/- What the printed functions of the layer norm, and of its reference, come to. -/
import Derived.Test.YtlcpcnachdbboaaPm
import Derived.Test.YtlcpcnachdbboaaPh
import Derived.Test.YtlcpcnachdbboaaPPrx6
import Derived.Test.YtlcpcnachdbboaaPPrx9
namespace Go.Proofs.Ytlcpcnachdbboaa
open Go.RowKit Go.Proofs.YtlcpcnachdbboaaW.PrintWords Go.Proofs.YtlcpcnachdbboaaW.PrintMore PPr HC
set_option linter.unusedSimpArgs false
set_option linter.unusedVariables false
/-- a list that is filled from its start on -/
def fillL (f : Nat → Int) (k : Nat) : List Int := (List.range 256).map fun i => if i < k then f i else 0
theorem fillL_len (f : Nat → Int) (k : Nat) : (fillL f k).length = 256 := by simp [fillL]
theorem fillL_get (f : Nat → Int) (k i : Nat) (h : i < 256) : (fillL f k).getD i 0 = if i < k then f i else 0 := mapR_get _ i h
theorem fillL_0 (f : Nat → Int) : fillL f 0 = List.replicate 256 0 := by
  apply ext_getDE
  · rw [fillL_len, List.length_replicate]
  · intro i hi
    rw [fillL_len] at hi
    rw [fillL_get _ _ _ hi, if_neg (by omega)]
    rw [List.getD_eq_getElem?_getD, List.getElem?_replicate, if_pos hi]; rfl
theorem fillL_all (f : Nat → Int) : fillL f 256 = (List.range 256).map f := by
  apply ext_getDE
  · rw [fillL_len]; simp
  · intro i hi
    rw [fillL_len] at hi
    rw [fillL_get _ _ _ hi, if_pos hi, mapR_get _ _ hi]
theorem fillL_set (f : Nat → Int) (k : Nat) (x : Int) (h : k < 256) (hx : x = f k) : (fillL f k).set k x = fillL f (k + 1) := by
  apply ext_getDE
  · rw [List.length_set, fillL_len, fillL_len]
  · intro i hi
    rw [List.length_set, fillL_len] at hi
    rw [getD_set _ _ _ _ (by rw [fillL_len]; exact h), fillL_get _ _ _ hi, fillL_get _ _ _ hi]
    by_cases e : k = i
    · subst e; rw [if_pos rfl, if_pos (by omega), hx]
    · rw [if_neg e]
      by_cases e2 : i < k
      · rw [if_pos e2, if_pos (by omega)]
      · rw [if_neg e2, if_neg (by omega)]
theorem extB {a b : List Bool} (h : a.length = b.length) (k : ∀ i, i < a.length → a.getD i false = b.getD i false) : a = b := by
  apply List.ext_getElem h
  intro i h1 h2
  have := k i h1
  simpa [List.getD_eq_getElem?_getD, List.getElem?_eq_getElem h1, List.getElem?_eq_getElem h2] using this
def fillB (f : Nat → Bool) (k : Nat) : List Bool := (List.range 256).map fun i => if i < k then f i else false
theorem fillB_len (f : Nat → Bool) (k : Nat) : (fillB f k).length = 256 := by simp [fillB]
theorem fillB_get (f : Nat → Bool) (k i : Nat) (h : i < 256) : (fillB f k).getD i false = if i < k then f i else false := mapR_getB _ i h
theorem fillB_0 (f : Nat → Bool) : fillB f 0 = List.replicate 256 false := by
  apply extB
  · rw [fillB_len, List.length_replicate]
  · intro i hi
    rw [fillB_len] at hi
    rw [fillB_get _ _ _ hi, if_neg (by omega)]
    rw [List.getD_eq_getElem?_getD, List.getElem?_replicate, if_pos hi]; rfl
theorem fillB_all (f : Nat → Bool) : fillB f 256 = (List.range 256).map f := by
  apply extB
  · rw [fillB_len]; simp
  · intro i hi
    rw [fillB_len] at hi
    rw [fillB_get _ _ _ hi, if_pos hi, mapR_getB _ _ hi]
theorem fillB_set (f : Nat → Bool) (k : Nat) (x : Bool) (h : k < 256) (hx : x = f k) : (fillB f k).set k x = fillB f (k + 1) := by
  apply extB
  · rw [List.length_set, fillB_len, fillB_len]
  · intro i hi
    rw [List.length_set, fillB_len] at hi
    rw [getD_setB _ _ _ _ (by rw [fillB_len]; exact h), fillB_get _ _ _ hi, fillB_get _ _ _ hi]
    by_cases e : k = i
    · subst e; rw [if_pos rfl, if_pos (by omega), hx]
    · rw [if_neg e]
      by_cases e2 : i < k
      · rw [if_pos e2, if_pos (by omega)]
      · rw [if_neg e2, if_neg (by omega)]
theorem fillB_next (f : Nat → Bool) (k : Nat) (h : k < 256) (hx : f k = false) : fillB f k = fillB f (k + 1) := by
  rw [← fillB_set f k false h hx.symm]
  apply extB
  · rw [List.length_set]
  · intro i hi
    rw [fillB_len] at hi
    rw [getD_setB _ _ _ _ (by rw [fillB_len]; exact h)]
    by_cases e : k = i
    · subst e; rw [if_pos rfl, fillB_get _ _ _ hi, if_neg (by omega)]
    · rw [if_neg e]
theorem fill_flo (c : List Int) (L n : Int) : fillL (floZ c L n) 256 = flo c L n := fillL_all _
theorem fill_res (c : List Int) (L n : Int) : fillL (fun s => c.getD s 0 * L % n) 256 = resL c L n := fillL_all _
theorem fill_had (c : List Int) (L n : Int) : fillB (fun s => decide (whZ c L n s = 0)) 256 = hadL c L n := fillB_all _
/-! powers of two -/
theorem shlE (x a : Int) (h0 : 0 ≤ x) (ha : a ≤ 12) (hx : x ≤ 1125899906842624) : shl .i64 x a = x * 2 ^ a.toNat := by
  have hp : ∀ n : Nat, n ≤ 12 → 0 ≤ x * 2 ^ n ∧ x * 2 ^ n ≤ x * 4096 := by
    intro n hn
    have h1 : (2 : Int) ^ n ≤ 4096 := by
      have h3 : (2 : Nat) ^ n ≤ 2 ^ 12 := Nat.pow_le_pow_right (by omega) hn
      have h4 : (2 : Nat) ^ 12 = 4096 := rfl
      rw [show (2 : Int) ^ n = ((2 ^ n : Nat) : Int) from (Int.natCast_pow 2 n).symm]
      omega
    have h2 : (0 : Int) ≤ 2 ^ n := Int.le_of_lt (Int.pow_pos (by omega))
    exact ⟨Int.mul_nonneg h0 h2, Int.mul_le_mul_of_nonneg_left h1 h0⟩
  have h := hp a.toNat (by omega)
  unfold shl
  rw [Nat.min_eq_left (show a.toNat ≤ IntKind.i64.bits by show a.toNat ≤ 64; omega), IntKind.wrap_i64]
  omega
theorem pow_bd (a : Int) (h0 : 1 ≤ a) (h : a ≤ 12) : 2 ≤ (2 : Int) ^ a.toNat ∧ (2 : Int) ^ a.toNat ≤ 4096 := by
  have : a = 1 ∨ a = 2 ∨ a = 3 ∨ a = 4 ∨ a = 5 ∨ a = 6 ∨ a = 7 ∨ a = 8 ∨ a = 9 ∨ a = 10 ∨ a = 11 ∨ a = 12 := by omega
  rcases this with rfl | rfl | rfl | rfl | rfl | rfl | rfl | rfl | rfl | rfl | rfl | rfl <;> decide
theorem power_from (a : Int) (h0 : 1 ≤ a) (h : a ≤ 12) : ∀ (d i : Nat), (i : Int) + d = a → Ev (fun k => puncheonref08_power.l0 k a (2 ^ i) (i : Int)) (2 ^ a.toNat)
  | 0, i, hd => by
    refine Ev.step (fun _ => by rw [puncheonref08_power.l0]) ?_
    refine ev_neg (by omega) (ev_eq (Ev.now _) ?_)
    rw [show a.toNat = i by omega]
  | d + 1, i, hd => by
    refine Ev.step (fun _ => by rw [puncheonref08_power.l0]) ?_
    refine ev_pos (by omega) ?_
    have hb := pow_bd (i + 1) (by omega) (by omega)
    rw [show ((i : Int) + 1).toNat = i + 1 by omega] at hb
    rw [wnext i (by omega), w64' (x := 2 * 2 ^ i) (y := 2 ^ (i + 1)) (by rw [Int.pow_succ, Int.mul_comm]) (by omega) (by omega)]
    exact power_from a h0 h d (i + 1) (by omega)
theorem power_ev (a : Int) (h0 : 1 ≤ a) (h : a ≤ 12) : Ev (fun k => puncheonref08_power.f k a) (2 ^ a.toNat) := by
  unfold puncheonref08_power.f
  exact power_from a h0 h a.toNat 0 (by omega)
/-- the counts that can be normalized -/
def okC (c : List Int) (a : Int) : Prop := totZ c ≠ 0 ∧ 1 ≤ a ∧ a ≤ 12 ∧ manyZ c ≤ 2 ^ a.toNat
instance (c : List Int) (a : Int) : Decidable (okC c a) := by unfold okC; exact inferInstance
theorem okC.good {c : List Int} {a : Int} (h : okC c a) : Good c (2 ^ a.toNat) ∧ totZ c = c.sum := by
  obtain ⟨h1, h2, h3, h4⟩ := h
  have hb := pow_bd a h2 h3
  unfold totZ at h1
  by_cases hr : rightB c = true
  · rw [if_pos hr] at h1
    unfold manyZ at h4
    rw [if_pos hr] at h4
    have := sum_nonneg ((rightB_iff c).1 hr).2.1
    exact ⟨⟨hr, by omega, by omega, by omega, h4⟩, by unfold totZ; rw [if_pos hr]⟩
  · rw [if_neg hr] at h1; exact absurd rfl h1
/-- what is computed -/
structure CntTo (c : List Int) (a : Int) (q : List Int) (e : Int) : Prop where
  yes : okC c a → NormTo c (2 ^ a.toNat) q ∧ e = 0
  no : ¬ okC c a → q = [] ∧ e = 1
theorem cntTo_ex (c : List Int) (a : Int) : ∃ q e, CntTo c a q e := by
  by_cases h : okC c a
  · obtain ⟨q, hq⟩ := norm_ex h.good.1
    exact ⟨q, 0, fun _ => ⟨hq, rfl⟩, fun h' => absurd h h'⟩
  · exact ⟨[], 1, fun h' => absurd h' h, fun _ => ⟨rfl, rfl⟩⟩
theorem wraps {x : Int} (h0 : -4611686018427387904 ≤ x) (h1 : x ≤ 4611686018427387904) : wrap64 x = x := w64' rfl (by omega) (by omega)
theorem sumTo_bd (f : Nat → Int) (B : Int) (h : ∀ i, i < 256 → 0 ≤ f i ∧ f i ≤ B) : ∀ i, i ≤ 256 → 0 ≤ sumTo f i ∧ sumTo f i ≤ i * B
  | 0, _ => by simp [sumTo]
  | i + 1, hi => by
    have h1 := sumTo_bd f B h i (by omega)
    have h2 := h i (by omega)
    simp only [sumTo]
    rw [Int.natCast_add, Int.add_mul]
    omega
theorem mx0 (x : Int) : mx 0 x = (x.toNat : Int) := by unfold mx; split <;> omega
section
variable {c : List Int} {a : Int} (hok : okC c a)
include hok
theorem counts_from (q : List Int) (hN : NormTo c (2 ^ a.toNat) q) : ∀ (d i : Nat), i + d = 256 →
    Ev (fun k => norm_Counts.l0 k c a c.sum (fillL (floZ c (2 ^ a.toNat) c.sum) i) (clTo (resL c (2 ^ a.toNat) c.sum) (hadL c (2 ^ a.toNat) c.sum) i) (sumTo (floZ c (2 ^ a.toNat) c.sum) i) c 256 (i : Int)) (q, 0)
  | 0, i, hd => by
    obtain ⟨g, ht⟩ := hok.good
    obtain ⟨h1, h2, h3, h4⟩ := hok
    have hb := pow_bd a h2 h3
    obtain rfl : i = 256 := by omega
    refine Ev.step (fun _ => by rw [norm_Counts.l0]) ?_
    refine ev_neg (by omega) (ev_pos (by omega) ?_)
    rw [fill_flo]
    have e1 : sumTo (floZ c (2 ^ a.toNat) c.sum) 256 = (flo c (2 ^ a.toNat) c.sum).sum := by
      rw [sum_sumTo (flo c (2 ^ a.toNat) c.sum), flo_len]; exact sumTo_congr fun i hi => (flo_get _ _ _ i hi).symm
    have hs := flo_sum g
    have e2 : shl .i64 1 a = 2 ^ a.toNat := by rw [shlE 1 a (by omega) h3 (by omega), Int.one_mul]
    rw [e1, e2, wraps (by omega) (by omega), wraps (by omega) (by omega), mx0, mx0]
    obtain ⟨q1, hg, ht⟩ := hN
    refine ev_obind (b := q1) ?_ (ev_obind (b := q) ?_ (Ev.now _))
    · exact giveF_of _ _ _ _ _ (flo_len _ _ _) (hadL_len _ _ _) (by omega) (fun s hs => by have := flo_bd g s hs; omega) hg
    · have hq1 : q1.length = 256 ∧ ∀ s, s < 256 → 0 ≤ q1.getD s 0 ∧ q1.getD s 0 ≤ 4097 := by
        obtain ⟨k1, k2, G, k3, k4, k5⟩ := gives_char _ _ _ _ _ (flo_len _ _ _) (hadL_len _ _ _) hg
        refine ⟨k1, fun s hs => ?_⟩
        have := k3 s
        have := flo_bd g s hs
        split at * <;> omega
      exact takeF_of c q1 q _ hq1.1 g.len (fun x hx => ⟨((rightB_iff c).1 g.R).2.1 x hx, by
        obtain ⟨s, hs, rfl⟩ := List.mem_iff_getElem.1 hx
        have := g.le s (by rw [← g.len]; exact hs)
        have h5 := g.bd
        rw [List.getD_eq_getElem?_getD, List.getElem?_eq_getElem hs] at this
        simp at this; omega⟩) (by omega) (fun s hs => by have := hq1.2 s hs; omega) ht
  | d + 1, i, hd => by
    have ih := counts_from q hN d (i + 1) (by omega)
    obtain ⟨g, ht⟩ := hok.good
    obtain ⟨h1, h2, h3, h4⟩ := hok
    have hb := pow_bd a h2 h3
    have hi : i < 256 := by omega
    have hlen := g.len
    have hn0 := g.n0
    obtain ⟨P, w, r, p⟩ := g.part i hi
    have hc0 := g.nn i
    have hc1 := g.le i hi
    have hc2 := g.bd
    have hP0 := p.P0
    have hw0 := p.w0
    have hw1 := p.w1
    have eP : shl .i64 (rd c (i : Int)) a = P := by rw [rd_nat, shlE _ a hc0 h3 (by omega), p.hP]
    have ew : wrap64 (Int.tdiv P c.sum) = w := by
      rw [Int.tdiv_eq_ediv_of_nonneg hP0]
      have : P / c.sum = w := by rw [← p.hw, ← p.hP]; rfl
      rw [this]; exact wraps (by omega) (by omega)
    have er : Int.tmod P c.sum = r := by
      rw [Int.tmod_eq_emod_of_nonneg hP0]
      have := p.hr
      rw [resL_get _ _ _ _ hi, p.hP] at this; exact this
    have hf : floZ c (2 ^ a.toNat) c.sum i = if w = 0 then mn (c.getD i 0) 1 else w := by rw [← p.hf, flo_get _ _ _ _ hi]
    have hm := mn_one hc0
    have hs := sumTo_bd (floZ c (2 ^ a.toNat) c.sum) 4096 (fun j hj => by have := flo_bd g j hj; rw [flo_get _ _ _ _ hj] at this; omega) i (by omega)
    have hcl := clTo_len (resL c (2 ^ a.toNat) c.sum) (hadL c (2 ^ a.toNat) c.sum) i
    refine Ev.step (fun _ => by rw [norm_Counts.l0]) ?_
    refine ev_pos (by omega) (ev_pos (by omega) (ev_pos (by omega) (ev_pos (by omega) (ev_neg (by omega) (ev_pos (by rw [fillL_len]; omega) (ev_obind rfl ?_))))))
    rw [eP, ew, er, Int.toNat_natCast, rd_nat, getD_set _ _ _ _ (by rw [fillL_len]; exact hi), if_pos rfl, wnext i (by omega)]
    by_cases hw : w > 0
    · refine ev_pos hw (ev_pos (by omega) ?_)
      rw [if_neg (by omega)] at hf
      rw [wraps (by omega) (by omega), fillL_set _ _ _ hi hf.symm, ← hf]
      have e3 : clTo (resL c (2 ^ a.toNat) c.sum) (hadL c (2 ^ a.toNat) c.sum) i ++ [⟨(i : Int), r, 0⟩] = clTo (resL c (2 ^ a.toNat) c.sum) (hadL c (2 ^ a.toNat) c.sum) (i + 1) := by
        rw [clTo, if_pos (by rw [p.hh]; simp; omega)]
        unfold mkG; rw [p.hr]
      rw [e3]
      exact ih
    · have hw' : w = 0 := by omega
      have e3 : clTo (resL c (2 ^ a.toNat) c.sum) (hadL c (2 ^ a.toNat) c.sum) (i + 1) = clTo (resL c (2 ^ a.toNat) c.sum) (hadL c (2 ^ a.toNat) c.sum) i := by
        rw [clTo, if_neg (by rw [p.hh]; simp [hw']), List.append_nil]
      refine ev_neg hw ?_
      rw [if_pos hw', hm] at hf
      rw [rd_nat]
      by_cases hc : c.getD i 0 > 0
      · rw [if_pos hc] at hf
        refine ev_pos hc (ev_obind rfl ?_)
        rw [rd_nat, List.set_set, getD_set _ _ _ _ (by rw [fillL_len]; exact hi), if_pos rfl, wraps (by omega) (by omega), fillL_set _ _ _ hi hf.symm, ← e3]
        simp only [sumTo, hf] at ih
        exact ih
      · rw [if_neg hc] at hf
        refine ev_neg hc ?_
        rw [wraps (by omega) (by omega), fillL_set _ _ _ hi (by omega), ← e3]
        simp only [sumTo, hf] at ih
        rw [hw']
        exact ih
end
theorem counts_ev (c : List Int) (a : Int) (hm : c.length ≤ 4611686018427387000) {q : List Int} {e : Int} (h : CntTo c a q e) : Ev (fun k => norm_Counts.f k c a) (q, e) := by
  have hno : Ev (fun k => norm_Counts.j0 k c a (totZ c) true) (([] : List Int), 1) := Ev.step (fun _ => by rw [norm_Counts.j0]) (ev_pos rfl (Ev.now _))
  unfold norm_Counts.f
  refine Ev.bind (total_ev c hm) ?_
  by_cases h1 : totZ c = 0
  · obtain ⟨rfl, rfl⟩ := h.no (fun hk => hk.1 h1)
    exact ev_pos h1 hno
  refine ev_neg h1 ?_
  by_cases h2 : a < 1
  · obtain ⟨rfl, rfl⟩ := h.no (fun hk => by have := hk.2.1; omega)
    exact ev_pos h2 hno
  refine ev_neg h2 ?_
  by_cases h3 : a > 12
  · obtain ⟨rfl, rfl⟩ := h.no (fun hk => by have := hk.2.2.1; omega)
    exact ev_pos h3 hno
  refine ev_neg h3 (Ev.bind (many_ev c hm) (ev_pos (by omega) ?_))
  have e2 : shl .i64 1 a = 2 ^ a.toNat := by rw [shlE 1 a (by omega) (by omega) (by omega), Int.one_mul]
  rw [e2]
  by_cases h4 : manyZ c > 2 ^ a.toNat
  · obtain ⟨rfl, rfl⟩ := h.no (fun hk => by have := hk.2.2.2; omega)
    rw [decide_eq_true h4]; exact hno
  · rw [decide_eq_false h4]
    have hok : okC c a := ⟨h1, by omega, by omega, by omega⟩
    obtain ⟨hN, rfl⟩ := h.yes hok
    obtain ⟨g, ht⟩ := hok.good
    refine Ev.step (fun _ => by rw [norm_Counts.j0]) ?_
    refine ev_neg (by simp) (ev_pos (by omega) ?_)
    have := counts_from hok q hN 256 0 (by omega)
    rw [fillL_0] at this
    rw [ht, show (c.length : Int) = 256 by have := g.len; omega]
    exact this
/-! the reference -/
theorem nn_mem {q : List Int} (hq : q.length = 256) (h : ∀ s, s < 256 → 0 ≤ q.getD s 0) : ∀ x, x ∈ q → 0 ≤ x := by
  intro x hx
  obtain ⟨s, hs, rfl⟩ := List.mem_iff_getElem.1 hx
  have := h s (by omega)
  rw [List.getD_eq_getElem?_getD, List.getElem?_eq_getElem hs] at this
  simpa using this
theorem rsum_from (q : List Int) (hq : q.length = 256) (h : ∀ x, x ∈ q → 0 ≤ x) (hs : q.sum ≤ 4611686018427387) : ∀ (d i : Nat), i + d = 256 → Ev (fun k => puncheonref08_sum.l0 k q (q.take i).sum (i : Int)) q.sum
  | 0, i, hd => by
    refine Ev.step (fun _ => by rw [puncheonref08_sum.l0]) ?_
    refine ev_neg (by omega) ?_
    rw [List.take_of_length_le (by omega)]
    exact Ev.now _
  | d + 1, i, hd => by
    refine Ev.step (fun _ => by rw [puncheonref08_sum.l0]) ?_
    refine ev_pos (by omega) (ev_pos (by omega) ?_)
    have h1 := sum_take_le h (i + 1)
    have h2 := sum_nonneg (l := q.take (i + 1)) (fun x hx => h x (List.mem_of_mem_take hx))
    rw [rd_nat, wnext i (by omega), w64' (x := (q.take i).sum + q.getD i 0) (y := (q.take (i + 1)).sum) (by rw [take_snocE q i (by omega), List.sum_append]; simp) (by omega) (by omega)]
    exact rsum_from q hq h hs d (i + 1) (by omega)
theorem rsum_ev (q : List Int) (hq : q.length = 256) (h : ∀ s, s < 256 → 0 ≤ q.getD s 0) (hs : q.sum ≤ 4611686018427387) : Ev (fun k => puncheonref08_sum.f k q) q.sum := by
  unfold puncheonref08_sum.f
  exact rsum_from q hq (nn_mem hq h) hs 256 0 (by omega)
theorem rneed_from (rest : List Int) (had : List Bool) (hr : rest.length = 256) (hh : had.length = 256) : ∀ (d i : Nat), i + d = 256 → Ev (fun k => puncheonref08_neediest.l0 k rest had (needZ rest had i) (i : Int)) (needZ rest had 256)
  | 0, i, hd => by
    obtain rfl : i = 256 := by omega
    refine Ev.step (fun _ => by rw [puncheonref08_neediest.l0]) ?_
    exact ev_neg (by omega) (Ev.now _)
  | d + 1, i, hd => by
    have ih := rneed_from rest had hr hh d (i + 1) (by omega)
    rw [needZ] at ih
    have hz := needZ_is rest had i
    generalize needZ rest had i = z at ih hz ⊢
    refine Ev.step (fun _ => by rw [puncheonref08_neediest.l0]) ?_
    refine ev_pos (by omega) (ev_pos (by omega) (ev_pos (by omega) ?_))
    rw [wnext i (by omega)]
    have e1 : rdOf false had (i : Int) = had.getD i false := rfl
    rw [e1]
    by_cases c1 : had.getD i false = true
    · rw [if_pos c1] at ih; exact ev_pos c1 ih
    · rw [if_neg c1] at ih
      refine ev_neg c1 ?_
      by_cases c2 : z < 0
      · rw [if_pos c2] at ih; exact ev_pos c2 ih
      · rw [if_neg c2] at ih
        have hz2 : z < 256 := by
          rcases hz with ⟨h, _⟩ | ⟨s, h, h2⟩
          · omega
          · have := h2.1; omega
        refine ev_neg c2 (ev_pos (by omega) (ev_pos (by omega) (ev_pos (by omega) ?_)))
        rw [rd_nat, show rd rest z = rest.getD z.toNat 0 from rfl]
        by_cases c3 : rest.getD i 0 > rest.getD z.toNat 0
        · rw [if_pos c3] at ih; exact ev_pos c3 ih
        · rw [if_neg c3] at ih; exact ev_neg c3 ih
theorem rrich_from (q c : List Int) (hq : q.length = 256) (hc : c.length = 256) : ∀ (d i : Nat), 1 ≤ i → i + d = 256 → Ev (fun k => puncheonref08_richest.l0 k q c (richZ q c i : Int) (i : Int)) (richZ q c 256 : Int)
  | 0, i, _, hd => by
    obtain rfl : i = 256 := by omega
    refine Ev.step (fun _ => by rw [puncheonref08_richest.l0]) ?_
    exact ev_neg (by omega) (Ev.now _)
  | d + 1, i, h1, hd => by
    have ih := rrich_from q c hq hc d (i + 1) (by omega) (by omega)
    rw [richZ] at ih
    have hz : richZ q c i < i := by have := (richZ_is q c (i - 1)).1; rwa [show i - 1 + 1 = i by omega] at this
    generalize richZ q c i = z at ih hz ⊢
    refine Ev.step (fun _ => by rw [puncheonref08_richest.l0]) ?_
    refine ev_pos (by omega) (ev_pos (by omega) (ev_pos (by omega) (ev_pos (by omega) (ev_pos (by omega) ?_))))
    rw [wnext i (by omega), rd_nat, rd_nat, rd_nat, rd_nat]
    by_cases c1 : q.getD i 0 > q.getD z 0
    · rw [if_pos c1] at ih; exact ev_pos c1 ih
    · rw [if_neg c1] at ih
      refine ev_neg c1 ?_
      by_cases c2 : q.getD i 0 = q.getD z 0
      · refine ev_pos c2 (ev_pos (by omega) (ev_pos (by omega) ?_))
        by_cases c3 : c.getD i 0 ≤ c.getD z 0
        · rw [if_pos ⟨c2, c3⟩] at ih; exact ev_pos c3 ih
        · rw [if_neg (fun h => c3 h.2)] at ih; exact ev_neg c3 ih
      · rw [if_neg (fun h => c2 h.1)] at ih; exact ev_neg c2 ih
theorem rich_of {q c : List Int} {s : Nat} (h : Rich q c s) : richZ q c 256 = s := (rich_one h (richZ_is q c 255)).symm
theorem rtakes_from (c : List Int) (hc : c.length = 256) (L : Int) (hL : 0 ≤ L) : ∀ (n : Nat) (q q' : List Int), q.length = 256 → (∀ s, s < 256 → 0 ≤ q.getD s 0) → q.sum ≤ 4611686018427387 → n = (q.sum - L).toNat → Takes c n q q' → Ev (fun k => puncheonref08_Counts.l2 k c L q) (q', 0)
  | 0, q, q', hq, hb, hs, hn, hT => by
    cases hT
    refine Ev.step (fun _ => by rw [puncheonref08_Counts.l2]) ?_
    exact Ev.bind (rsum_ev q hq hb hs) (ev_neg (by omega) (Ev.now _))
  | n + 1, q, q', hq, hb, hs, hn, hT => by
    cases hT with
    | succ hR h2 hT =>
      rename_i s
      have hs1 := hR.1
      have hr : Ev (fun k => puncheonref08_richest.f k q c) (s : Int) := by
        unfold puncheonref08_richest.f
        have := rrich_from q c hq hc 255 1 (by omega) (by omega)
        rw [rich_of hR] at this
        rw [show (richZ q c 1 : Int) = 0 by have h0 : richZ q c 1 < 1 := (richZ_is q c 0).1; omega] at this
        exact this
      have hle : q.getD s 0 ≤ q.sum := by
        have h1 := sum_take_le (nn_mem hq hb) (s + 1)
        rw [take_snoc' q s (by omega), List.sum_append] at h1
        have h3 := sum_nonneg (l := q.take s) (fun x hx => nn_mem hq hb x (List.mem_of_mem_take hx))
        simp only [List.sum_cons, List.sum_nil] at h1
        omega
      have e1 := sum_set q s (q.getD s 0 - 1) (by omega)
      refine Ev.step (fun _ => by rw [puncheonref08_Counts.l2]) ?_
      refine Ev.bind (rsum_ev q hq hb hs) (ev_pos (by omega) (Ev.bind hr (ev_pos (by omega) (ev_pos (by omega) ?_))))
      rw [rd_nat, Int.toNat_natCast, wraps (by omega) (by omega)]
      refine rtakes_from c hc L hL n _ q' (by simpa using hq) (fun t ht => ?_) (by omega) (by omega) hT
      rw [getD_set _ _ _ _ (by omega)]
      have := hb t ht
      split <;> omega
theorem rgives_from (c : List Int) (L : Int) (rest : List Int) (hr : rest.length = 256) (r : List Int × Int) (hL : L ≤ 4611686018427) : ∀ (n : Nat) (q : List Int) (had : List Bool) (q' : List Int), q.length = 256 → had.length = 256 → (∀ s, s < 256 → 0 ≤ q.getD s 0) → q.sum ≤ 4611686018427387 → n = (L - q.sum).toNat → Gives rest n q had q' → Ev (fun k => puncheonref08_Counts.l2 k c L q') r → Ev (fun k => puncheonref08_Counts.l1 k c L q rest had) r
  | 0, q, had, q', hq, hh, hb, hs, hn, hT, hE => by
    cases hT
    refine Ev.step (fun _ => by rw [puncheonref08_Counts.l1]) ?_
    exact Ev.bind (rsum_ev q hq hb hs) (ev_neg (by omega) hE)
  | n + 1, q, had, q', hq, hh, hb, hs, hn, hT, hE => by
    cases hT with
    | succ hR hT =>
      rename_i s
      have hs1 := hR.1
      have hne : Ev (fun k => puncheonref08_neediest.f k rest had) (s : Int) := by
        unfold puncheonref08_neediest.f
        have := rneed_from rest had hr hh 256 0 (by omega)
        rw [needZ_of hR] at this
        exact this
      have hle : q.getD s 0 ≤ q.sum := by
        have h1 := sum_take_le (nn_mem hq hb) (s + 1)
        rw [take_snoc' q s (by omega), List.sum_append] at h1
        have h3 := sum_nonneg (l := q.take s) (fun x hx => nn_mem hq hb x (List.mem_of_mem_take hx))
        simp only [List.sum_cons, List.sum_nil] at h1
        omega
      have e1 := sum_set q s (q.getD s 0 + 1) (by omega)
      have hbs := hb s hs1
      refine Ev.step (fun _ => by rw [puncheonref08_Counts.l1]) ?_
      refine Ev.bind (rsum_ev q hq hb hs) (ev_pos (by omega) (Ev.bind hne (ev_pos (by omega) (ev_pos (by omega) (ev_pos (by omega) ?_)))))
      rw [rd_nat, Int.toNat_natCast, wraps (by omega) (by omega)]
      refine rgives_from c L rest hr r hL n _ _ q' (by simpa using hq) (by simpa using hh) (fun t ht => ?_) (by omega) (by omega) hT hE
      rw [getD_set _ _ _ _ (by omega)]
      have := hb t ht
      split <;> omega
section
variable {c : List Int} {a : Int} (hok : okC c a)
include hok
theorem rcounts_from (q : List Int) (hN : NormTo c (2 ^ a.toNat) q) : ∀ (d i : Nat), i + d = 256 →
    Ev (fun k => puncheonref08_Counts.l0 k c c.sum (2 ^ a.toNat) (fillL (floZ c (2 ^ a.toNat) c.sum) i) (fillL (fun s => c.getD s 0 * 2 ^ a.toNat % c.sum) i) (fillB (fun s => decide (whZ c (2 ^ a.toNat) c.sum s = 0)) i) (i : Int)) (q, 0)
  | 0, i, hd => by
    obtain ⟨g, ht⟩ := hok.good
    obtain ⟨h1, h2, h3, h4⟩ := hok
    have hb := pow_bd a h2 h3
    obtain rfl : i = 256 := by omega
    refine Ev.step (fun _ => by rw [puncheonref08_Counts.l0]) ?_
    refine ev_neg (by omega) ?_
    rw [fill_flo, fill_res, fill_had]
    have hs := flo_sum g
    obtain ⟨q1, hg, ht⟩ := hN
    obtain ⟨k1, k2, G, k3, k4, k5⟩ := gives_char _ _ _ _ _ (flo_len _ _ _) (hadL_len _ _ _) hg
    refine rgives_from c _ _ (resL_len _ _ _) (q, 0) (by omega) _ _ _ q1 (flo_len _ _ _) (hadL_len _ _ _) (fun s hs => (flo_bd g s hs).1) (by omega) rfl hg ?_
    refine rtakes_from c g.len _ (by omega) _ q1 q k1 (fun s hs => ?_) (by omega) (by omega) ht
    have := k3 s
    have := flo_bd g s hs
    split at * <;> omega
  | d + 1, i, hd => by
    have ih := rcounts_from q hN d (i + 1) (by omega)
    obtain ⟨g, ht⟩ := hok.good
    obtain ⟨h1, h2, h3, h4⟩ := hok
    have hb := pow_bd a h2 h3
    have hi : i < 256 := by omega
    have hlen := g.len
    have hn0 := g.n0
    obtain ⟨P, w, r, p⟩ := g.part i hi
    have hc0 := g.nn i
    have hc1 := g.le i hi
    have hc2 := g.bd
    have hP0 := p.P0
    have hw0 := p.w0
    have hw1 := p.w1
    have hPb : P ≤ 4611686018427387904 := by
      have h5 : c.getD i 0 * 2 ^ a.toNat ≤ c.getD i 0 * 4096 := Int.mul_le_mul_of_nonneg_left hb.2 hc0
      rw [p.hP] at h5
      omega
    have eP : wrap64 (rd c (i : Int) * 2 ^ a.toNat) = P := by rw [rd_nat, p.hP]; exact wraps (by omega) (by omega)
    have ew : wrap64 (Int.tdiv P c.sum) = w := by
      rw [Int.tdiv_eq_ediv_of_nonneg hP0]
      have : P / c.sum = w := by rw [← p.hw, ← p.hP]; rfl
      rw [this]; exact wraps (by omega) (by omega)
    have er : Int.tmod P c.sum = c.getD i 0 * 2 ^ a.toNat % c.sum := by
      rw [Int.tmod_eq_emod_of_nonneg hP0, p.hP]
    have hf : floZ c (2 ^ a.toNat) c.sum i = if w = 0 then mn (c.getD i 0) 1 else w := by rw [← p.hf, flo_get _ _ _ _ hi]
    refine Ev.step (fun _ => by rw [puncheonref08_Counts.l0]) ?_
    refine ev_pos (by omega) (ev_pos (by omega) (ev_pos (by omega) (ev_neg (by omega) (ev_pos (by rw [fillL_len]; omega) (ev_obind rfl (ev_pos (by rw [fillL_len]; omega) (ev_obind rfl ?_)))))))
    rw [eP, ew, er, Int.toNat_natCast, rd_nat, getD_set _ _ _ _ (by rw [fillL_len]; exact hi), if_pos rfl, wnext i (by omega), fillL_set (fun s => c.getD s 0 * 2 ^ a.toNat % c.sum) _ _ hi rfl]
    by_cases hw : w = 0
    · rw [if_pos hw] at hf
      refine ev_pos hw (ev_pos (by rw [fillB_len]; omega) ?_)
      rw [List.set_set, rd_nat, fillL_set _ _ _ hi hf.symm, fillB_set _ _ _ hi (by rw [p.hw]; simp [hw])]
      exact ih
    · rw [if_neg hw] at hf
      refine ev_neg hw ?_
      rw [fillL_set _ _ _ hi hf.symm, fillB_next _ _ hi (by rw [p.hw]; simpa using hw)]
      exact ih
end
theorem rcounts_ev (c : List Int) (a : Int) (hm : c.length ≤ 4611686018427387000) {q : List Int} {e : Int} (h : CntTo c a q e) : Ev (fun k => puncheonref08_Counts.f k c a) (q, e) := by
  have hno : Ev (fun k => puncheonref08_Counts.j0 k c a (totZ c) true) (([] : List Int), 1) := Ev.step (fun _ => by rw [puncheonref08_Counts.j0]) (ev_pos rfl (Ev.now _))
  unfold puncheonref08_Counts.f
  refine Ev.bind (rtotal_ev c hm) ?_
  by_cases h1 : totZ c = 0
  · obtain ⟨rfl, rfl⟩ := h.no (fun hk => hk.1 h1)
    exact ev_pos h1 hno
  refine ev_neg h1 ?_
  by_cases h2 : a < 1
  · obtain ⟨rfl, rfl⟩ := h.no (fun hk => by have := hk.2.1; omega)
    exact ev_pos h2 hno
  refine ev_neg h2 ?_
  by_cases h3 : a > 12
  · obtain ⟨rfl, rfl⟩ := h.no (fun hk => by have := hk.2.2.1; omega)
    rw [decide_eq_true h3]; exact hno
  rw [decide_eq_false h3]
  refine Ev.step (fun _ => by rw [puncheonref08_Counts.j0]) ?_
  refine ev_neg (by simp) (Ev.bind (power_ev a (by omega) (by omega)) (Ev.bind (rmany_ev c hm) ?_))
  by_cases h4 : manyZ c > 2 ^ a.toNat
  · obtain ⟨rfl, rfl⟩ := h.no (fun hk => by have := hk.2.2.2; omega)
    exact ev_pos h4 (Ev.now _)
  · have hok : okC c a := ⟨h1, by omega, by omega, by omega⟩
    obtain ⟨hN, rfl⟩ := h.yes hok
    obtain ⟨g, ht⟩ := hok.good
    refine ev_neg h4 (ev_pos (by omega) (ev_pos (by omega) ?_))
    have := rcounts_from hok q hN 256 0 (by omega)
    rw [fillL_0, fillL_0, fillB_0] at this
    rw [ht]
    exact this
end Go.Proofs.Ytlcpcnachdbboaa
