/- What the printed functions of the layer norm come to. -/
import Derived.Test.YtlcpcnachdbboaaPm
import Derived.Test.YtlcpcnachdbboaaPh
import Derived.Test.YtlcpcnachdbboaaPPrx6
namespace Go.Proofs.Ytlcpcnachdbboaa
open Go.RowKit Go.Proofs.YtlcpcnachdbboaaW.PrintWords Go.Proofs.YtlcpcnachdbboaaW.PrintMore PPr HC
set_option linter.unusedSimpArgs false
set_option linter.unusedVariables false
/-- a list that is filled from its start on -/
def fillL (f : Nat → Int) (k : Nat) : List Int := (List.range 256).map fun i => if i < k then f i else 0
theorem fillL_len (f : Nat → Int) (k : Nat) : (fillL f k).length = 256 := by simp [fillL]
theorem fillL_get (f : Nat → Int) (k i : Nat) (h : i < 256) : (fillL f k).getD i 0 = if i < k then f i else 0 := mapR_get _ i h
theorem fillL_0 (f : Nat → Int) : fillL f 0 = List.replicate 256 0 := by
  apply ext_getDE
  · rw [fillL_len, List.length_replicate]
  · intro i hi
    rw [fillL_len] at hi
    rw [fillL_get _ _ _ hi, if_neg (by omega)]
    rw [List.getD_eq_getElem?_getD, List.getElem?_replicate, if_pos hi]; rfl
theorem fillL_all (f : Nat → Int) : fillL f 256 = (List.range 256).map f := by
  apply ext_getDE
  · rw [fillL_len]; simp
  · intro i hi
    rw [fillL_len] at hi
    rw [fillL_get _ _ _ hi, if_pos hi, mapR_get _ _ hi]
theorem fillL_set (f : Nat → Int) (k : Nat) (x : Int) (h : k < 256) (hx : x = f k) : (fillL f k).set k x = fillL f (k + 1) := by
  apply ext_getDE
  · rw [List.length_set, fillL_len, fillL_len]
  · intro i hi
    rw [List.length_set, fillL_len] at hi
    rw [getD_set _ _ _ _ (by rw [fillL_len]; exact h), fillL_get _ _ _ hi, fillL_get _ _ _ hi]
    by_cases e : k = i
    · subst e; rw [if_pos rfl, if_pos (by omega), hx]
    · rw [if_neg e]
      by_cases e2 : i < k
      · rw [if_pos e2, if_pos (by omega)]
      · rw [if_neg e2, if_neg (by omega)]
theorem extB {a b : List Bool} (h : a.length = b.length) (k : ∀ i, i < a.length → a.getD i false = b.getD i false) : a = b := by
  apply List.ext_getElem h
  intro i h1 h2
  have := k i h1
  simpa [List.getD_eq_getElem?_getD, List.getElem?_eq_getElem h1, List.getElem?_eq_getElem h2] using this
def fillB (f : Nat → Bool) (k : Nat) : List Bool := (List.range 256).map fun i => if i < k then f i else false
theorem fillB_len (f : Nat → Bool) (k : Nat) : (fillB f k).length = 256 := by simp [fillB]
theorem fillB_get (f : Nat → Bool) (k i : Nat) (h : i < 256) : (fillB f k).getD i false = if i < k then f i else false := mapR_getB _ i h
theorem fillB_0 (f : Nat → Bool) : fillB f 0 = List.replicate 256 false := by
  apply extB
  · rw [fillB_len, List.length_replicate]
  · intro i hi
    rw [fillB_len] at hi
    rw [fillB_get _ _ _ hi, if_neg (by omega)]
    rw [List.getD_eq_getElem?_getD, List.getElem?_replicate, if_pos hi]; rfl
theorem fillB_all (f : Nat → Bool) : fillB f 256 = (List.range 256).map f := by
  apply extB
  · rw [fillB_len]; simp
  · intro i hi
    rw [fillB_len] at hi
    rw [fillB_get _ _ _ hi, if_pos hi, mapR_getB _ _ hi]
theorem fillB_set (f : Nat → Bool) (k : Nat) (x : Bool) (h : k < 256) (hx : x = f k) : (fillB f k).set k x = fillB f (k + 1) := by
  apply extB
  · rw [List.length_set, fillB_len, fillB_len]
  · intro i hi
    rw [List.length_set, fillB_len] at hi
    rw [getD_setB _ _ _ _ (by rw [fillB_len]; exact h), fillB_get _ _ _ hi, fillB_get _ _ _ hi]
    by_cases e : k = i
    · subst e; rw [if_pos rfl, if_pos (by omega), hx]
    · rw [if_neg e]
      by_cases e2 : i < k
      · rw [if_pos e2, if_pos (by omega)]
      · rw [if_neg e2, if_neg (by omega)]
theorem fillB_next (f : Nat → Bool) (k : Nat) (h : k < 256) (hx : f k = false) : fillB f k = fillB f (k + 1) := by
  rw [← fillB_set f k false h hx.symm]
  apply extB
  · rw [List.length_set]
  · intro i hi
    rw [fillB_len] at hi
    rw [getD_setB _ _ _ _ (by rw [fillB_len]; exact h)]
    by_cases e : k = i
    · subst e; rw [if_pos rfl, fillB_get _ _ _ hi, if_neg (by omega)]
    · rw [if_neg e]
theorem fill_flo (c : List Int) (L n : Int) : fillL (floZ c L n) 256 = flo c L n := fillL_all _
theorem fill_res (c : List Int) (L n : Int) : fillL (fun s => c.getD s 0 * L % n) 256 = resL c L n := fillL_all _
theorem fill_had (c : List Int) (L n : Int) : fillB (fun s => decide (whZ c L n s = 0)) 256 = hadL c L n := fillB_all _
/-! powers of two -/
theorem shlE (x a : Int) (h0 : 0 ≤ x) (ha : a ≤ 12) (hx : x ≤ 1125899906842624) : shl .i64 x a = x * 2 ^ a.toNat := by
  have hp : ∀ n : Nat, n ≤ 12 → 0 ≤ x * 2 ^ n ∧ x * 2 ^ n ≤ x * 4096 := by
    intro n hn
    have h1 : (2 : Int) ^ n ≤ 4096 := by
      have h3 : (2 : Nat) ^ n ≤ 2 ^ 12 := Nat.pow_le_pow_right (by omega) hn
      have h4 : (2 : Nat) ^ 12 = 4096 := rfl
      rw [show (2 : Int) ^ n = ((2 ^ n : Nat) : Int) from (Int.natCast_pow 2 n).symm]
      omega
    have h2 : (0 : Int) ≤ 2 ^ n := Int.le_of_lt (Int.pow_pos (by omega))
    exact ⟨Int.mul_nonneg h0 h2, Int.mul_le_mul_of_nonneg_left h1 h0⟩
  have h := hp a.toNat (by omega)
  unfold shl
  rw [Nat.min_eq_left (show a.toNat ≤ IntKind.i64.bits by show a.toNat ≤ 64; omega), IntKind.wrap_i64]
  omega
theorem pow_bd (a : Int) (h0 : 1 ≤ a) (h : a ≤ 12) : 2 ≤ (2 : Int) ^ a.toNat ∧ (2 : Int) ^ a.toNat ≤ 4096 := by
  have : a = 1 ∨ a = 2 ∨ a = 3 ∨ a = 4 ∨ a = 5 ∨ a = 6 ∨ a = 7 ∨ a = 8 ∨ a = 9 ∨ a = 10 ∨ a = 11 ∨ a = 12 := by omega
  rcases this with rfl | rfl | rfl | rfl | rfl | rfl | rfl | rfl | rfl | rfl | rfl | rfl <;> decide
/-- the counts that can be normalized -/
def okC (c : List Int) (a : Int) : Prop := totZ c ≠ 0 ∧ 1 ≤ a ∧ a ≤ 12 ∧ manyZ c ≤ 2 ^ a.toNat
instance (c : List Int) (a : Int) : Decidable (okC c a) := by unfold okC; exact inferInstance
theorem okC.good {c : List Int} {a : Int} (h : okC c a) : Good c (2 ^ a.toNat) ∧ totZ c = c.sum := by
  obtain ⟨h1, h2, h3, h4⟩ := h
  have hb := pow_bd a h2 h3
  unfold totZ at h1
  by_cases hr : rightB c = true
  · rw [if_pos hr] at h1
    unfold manyZ at h4
    rw [if_pos hr] at h4
    have := sum_nonneg ((rightB_iff c).1 hr).2.1
    exact ⟨⟨hr, by omega, by omega, by omega, h4⟩, by unfold totZ; rw [if_pos hr]⟩
  · rw [if_neg hr] at h1; exact absurd rfl h1
/-- what is computed -/
structure CntTo (c : List Int) (a : Int) (q : List Int) (e : Int) : Prop where
  yes : okC c a → NormTo c (2 ^ a.toNat) q ∧ e = 0
  no : ¬ okC c a → q = [] ∧ e = 1
theorem cntTo_ex (c : List Int) (a : Int) : ∃ q e, CntTo c a q e := by
  by_cases h : okC c a
  · obtain ⟨q, hq⟩ := norm_ex h.good.1
    exact ⟨q, 0, fun _ => ⟨hq, rfl⟩, fun h' => absurd h h'⟩
  · exact ⟨[], 1, fun h' => absurd h' h, fun _ => ⟨rfl, rfl⟩⟩
theorem wraps {x : Int} (h0 : -4611686018427387904 ≤ x) (h1 : x ≤ 4611686018427387904) : wrap64 x = x := w64' rfl (by omega) (by omega)
theorem sumTo_bd (f : Nat → Int) (B : Int) (h : ∀ i, i < 256 → 0 ≤ f i ∧ f i ≤ B) : ∀ i, i ≤ 256 → 0 ≤ sumTo f i ∧ sumTo f i ≤ i * B
  | 0, _ => by simp [sumTo]
  | i + 1, hi => by
    have h1 := sumTo_bd f B h i (by omega)
    have h2 := h i (by omega)
    simp only [sumTo]
    rw [Int.natCast_add, Int.add_mul]
    omega
theorem mx0 (x : Int) : mx 0 x = (x.toNat : Int) := by unfold mx; split <;> omega
section
variable {c : List Int} {a : Int} (hok : okC c a)
include hok
theorem counts_from (q : List Int) (hN : NormTo c (2 ^ a.toNat) q) : ∀ (d i : Nat), i + d = 256 →
    Ev (fun k => norm_Counts.l0 k c a c.sum (fillL (floZ c (2 ^ a.toNat) c.sum) i) (clTo (resL c (2 ^ a.toNat) c.sum) (hadL c (2 ^ a.toNat) c.sum) i) (sumTo (floZ c (2 ^ a.toNat) c.sum) i) c 256 (i : Int)) (q, 0)
  | 0, i, hd => by
    obtain ⟨g, ht⟩ := hok.good
    obtain ⟨h1, h2, h3, h4⟩ := hok
    have hb := pow_bd a h2 h3
    obtain rfl : i = 256 := by omega
    refine Ev.step (fun _ => by rw [norm_Counts.l0]) ?_
    refine ev_neg (by omega) (ev_pos (by omega) ?_)
    rw [fill_flo]
    have e1 : sumTo (floZ c (2 ^ a.toNat) c.sum) 256 = (flo c (2 ^ a.toNat) c.sum).sum := by
      rw [sum_sumTo (flo c (2 ^ a.toNat) c.sum), flo_len]; exact sumTo_congr fun i hi => (flo_get _ _ _ i hi).symm
    have hs := flo_sum g
    have e2 : shl .i64 1 a = 2 ^ a.toNat := by rw [shlE 1 a (by omega) h3 (by omega), Int.one_mul]
    rw [e1, e2, wraps (by omega) (by omega), wraps (by omega) (by omega), mx0, mx0]
    obtain ⟨q1, hg, ht⟩ := hN
    refine ev_obind (b := q1) ?_ (ev_obind (b := q) ?_ (Ev.now _))
    · exact giveF_of _ _ _ _ _ (flo_len _ _ _) (hadL_len _ _ _) (by omega) (fun s hs => by have := flo_bd g s hs; omega) hg
    · have hq1 : q1.length = 256 ∧ ∀ s, s < 256 → 0 ≤ q1.getD s 0 ∧ q1.getD s 0 ≤ 4097 := by
        obtain ⟨k1, k2, G, k3, k4, k5⟩ := gives_char _ _ _ _ _ (flo_len _ _ _) (hadL_len _ _ _) hg
        refine ⟨k1, fun s hs => ?_⟩
        have := k3 s
        have := flo_bd g s hs
        split at * <;> omega
      exact takeF_of c q1 q _ hq1.1 g.len (fun x hx => ⟨((rightB_iff c).1 g.R).2.1 x hx, by
        obtain ⟨s, hs, rfl⟩ := List.mem_iff_getElem.1 hx
        have := g.le s (by rw [← g.len]; exact hs)
        have h5 := g.bd
        rw [List.getD_eq_getElem?_getD, List.getElem?_eq_getElem hs] at this
        simp at this; omega⟩) (by omega) (fun s hs => by have := hq1.2 s hs; omega) ht
  | d + 1, i, hd => by
    have ih := counts_from q hN d (i + 1) (by omega)
    obtain ⟨g, ht⟩ := hok.good
    obtain ⟨h1, h2, h3, h4⟩ := hok
    have hb := pow_bd a h2 h3
    have hi : i < 256 := by omega
    have hlen := g.len
    have hn0 := g.n0
    obtain ⟨P, w, r, p⟩ := g.part i hi
    have hc0 := g.nn i
    have hc1 := g.le i hi
    have hc2 := g.bd
    have hP0 := p.P0
    have hw0 := p.w0
    have hw1 := p.w1
    have eP : shl .i64 (rd c (i : Int)) a = P := by rw [rd_nat, shlE _ a hc0 h3 (by omega), p.hP]
    have ew : wrap64 (Int.tdiv P c.sum) = w := by
      rw [Int.tdiv_eq_ediv_of_nonneg hP0]
      have : P / c.sum = w := by rw [← p.hw, ← p.hP]; rfl
      rw [this]; exact wraps (by omega) (by omega)
    have er : Int.tmod P c.sum = r := by
      rw [Int.tmod_eq_emod_of_nonneg hP0]
      have := p.hr
      rw [resL_get _ _ _ _ hi, p.hP] at this; exact this
    have hf : floZ c (2 ^ a.toNat) c.sum i = if w = 0 then mn (c.getD i 0) 1 else w := by rw [← p.hf, flo_get _ _ _ _ hi]
    have hm := mn_one hc0
    have hs := sumTo_bd (floZ c (2 ^ a.toNat) c.sum) 4096 (fun j hj => by have := flo_bd g j hj; rw [flo_get _ _ _ _ hj] at this; omega) i (by omega)
    have hcl := clTo_len (resL c (2 ^ a.toNat) c.sum) (hadL c (2 ^ a.toNat) c.sum) i
    refine Ev.step (fun _ => by rw [norm_Counts.l0]) ?_
    refine ev_pos (by omega) (ev_pos (by omega) (ev_pos (by omega) (ev_pos (by omega) (ev_neg (by omega) (ev_pos (by rw [fillL_len]; omega) (ev_obind rfl ?_))))))
    rw [eP, ew, er, Int.toNat_natCast, rd_nat, getD_set _ _ _ _ (by rw [fillL_len]; exact hi), if_pos rfl, wnext i (by omega)]
    by_cases hw : w > 0
    · refine ev_pos hw (ev_pos (by omega) ?_)
      rw [if_neg (by omega)] at hf
      rw [wraps (by omega) (by omega), fillL_set _ _ _ hi hf.symm, ← hf]
      have e3 : clTo (resL c (2 ^ a.toNat) c.sum) (hadL c (2 ^ a.toNat) c.sum) i ++ [⟨(i : Int), r, 0⟩] = clTo (resL c (2 ^ a.toNat) c.sum) (hadL c (2 ^ a.toNat) c.sum) (i + 1) := by
        rw [clTo, if_pos (by rw [p.hh]; simp; omega)]
        unfold mkG; rw [p.hr]
      rw [e3]
      exact ih
    · have hw' : w = 0 := by omega
      have e3 : clTo (resL c (2 ^ a.toNat) c.sum) (hadL c (2 ^ a.toNat) c.sum) (i + 1) = clTo (resL c (2 ^ a.toNat) c.sum) (hadL c (2 ^ a.toNat) c.sum) i := by
        rw [clTo, if_neg (by rw [p.hh]; simp [hw']), List.append_nil]
      refine ev_neg hw ?_
      rw [if_pos hw', hm] at hf
      rw [rd_nat]
      by_cases hc : c.getD i 0 > 0
      · rw [if_pos hc] at hf
        refine ev_pos hc (ev_obind rfl ?_)
        rw [rd_nat, List.set_set, getD_set _ _ _ _ (by rw [fillL_len]; exact hi), if_pos rfl, wraps (by omega) (by omega), fillL_set _ _ _ hi hf.symm, ← e3]
        simp only [sumTo, hf] at ih
        exact ih
      · rw [if_neg hc] at hf
        refine ev_neg hc ?_
        rw [wraps (by omega) (by omega), fillL_set _ _ _ hi (by omega), ← e3]
        simp only [sumTo, hf] at ih
        rw [hw']
        exact ih
end
theorem counts_ev (c : List Int) (a : Int) (hm : c.length ≤ 4611686018427387000) {q : List Int} {e : Int} (h : CntTo c a q e) : Ev (fun k => norm_Counts.f k c a) (q, e) := by
  have hno : Ev (fun k => norm_Counts.j0 k c a (totZ c) true) (([] : List Int), 1) := Ev.step (fun _ => by rw [norm_Counts.j0]) (ev_pos rfl (Ev.now _))
  unfold norm_Counts.f
  refine Ev.bind (total_ev c hm) ?_
  by_cases h1 : totZ c = 0
  · obtain ⟨rfl, rfl⟩ := h.no (fun hk => hk.1 h1)
    exact ev_pos h1 hno
  refine ev_neg h1 ?_
  by_cases h2 : a < 1
  · obtain ⟨rfl, rfl⟩ := h.no (fun hk => by have := hk.2.1; omega)
    exact ev_pos h2 hno
  refine ev_neg h2 ?_
  by_cases h3 : a > 12
  · obtain ⟨rfl, rfl⟩ := h.no (fun hk => by have := hk.2.2.1; omega)
    exact ev_pos h3 hno
  refine ev_neg h3 (Ev.bind (many_ev c hm) (ev_pos (by omega) ?_))
  have e2 : shl .i64 1 a = 2 ^ a.toNat := by rw [shlE 1 a (by omega) (by omega) (by omega), Int.one_mul]
  rw [e2]
  by_cases h4 : manyZ c > 2 ^ a.toNat
  · obtain ⟨rfl, rfl⟩ := h.no (fun hk => by have := hk.2.2.2; omega)
    rw [decide_eq_true h4]; exact hno
  · rw [decide_eq_false h4]
    have hok : okC c a := ⟨h1, by omega, by omega, by omega⟩
    obtain ⟨hN, rfl⟩ := h.yes hok
    obtain ⟨g, ht⟩ := hok.good
    refine Ev.step (fun _ => by rw [norm_Counts.j0]) ?_
    refine ev_neg (by simp) (ev_pos (by omega) ?_)
    have := counts_from hok q hN 256 0 (by omega)
    rw [fillL_0] at this
    rw [ht, show (c.length : Int) = 256 by have := g.len; omega]
    exact this
theorem nn_mem {q : List Int} (hq : q.length = 256) (h : ∀ s, s < 256 → 0 ≤ q.getD s 0) : ∀ x, x ∈ q → 0 ≤ x := by
  intro x hx
  obtain ⟨s, hs, rfl⟩ := List.mem_iff_getElem.1 hx
  have := h s (by omega)
  rw [List.getD_eq_getElem?_getD, List.getElem?_eq_getElem hs] at this
  simpa using this
end Go.Proofs.Ytlcpcnachdbboaa
