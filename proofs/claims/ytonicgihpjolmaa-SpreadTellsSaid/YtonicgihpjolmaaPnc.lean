/- What the printed functions of the layer norm come to. The layer norm's laws, plainly. -/
import Derived.Test.YtonicgihpjolmaaPm
import Derived.Test.YtonicgihpjolmaaPh
import Derived.Test.YtonicgihpjolmaaPPrx3
import Derived.Test.YtonicgihpjolmaaPPrx8
namespace Go.Proofs.Ytonicgihpjolmaa
open Go.RowKit Go.Proofs.YtonicgihpjolmaaW.PrintWords Go.Proofs.YtonicgihpjolmaaW.PrintMore
set_option linter.unusedSimpArgs false
set_option linter.unusedVariables false
/-- a list that is filled from its start on -/
def fillL (f : Nat → Int) (k : Nat) : List Int := (List.range 256).map fun i => if i < k then f i else 0
theorem fillL_len (f : Nat → Int) (k : Nat) : (fillL f k).length = 256 := by simp [fillL]
theorem fillL_get (f : Nat → Int) (k i : Nat) (h : i < 256) : (fillL f k).getD i 0 = if i < k then f i else 0 := mapR_get _ i h
theorem fillL_0 (f : Nat → Int) : fillL f 0 = List.replicate 256 0 := by
  apply ext_getDE
  · rw [fillL_len, List.length_replicate]
  · intro i hi
    rw [fillL_len] at hi
    rw [fillL_get _ _ _ hi, if_neg (by omega)]
    rw [List.getD_eq_getElem?_getD, List.getElem?_replicate, if_pos hi]; rfl
theorem fillL_all (f : Nat → Int) : fillL f 256 = (List.range 256).map f := by
  apply ext_getDE
  · rw [fillL_len]; simp
  · intro i hi
    rw [fillL_len] at hi
    rw [fillL_get _ _ _ hi, if_pos hi, mapR_get _ _ hi]
theorem fillL_set (f : Nat → Int) (k : Nat) (x : Int) (h : k < 256) (hx : x = f k) : (fillL f k).set k x = fillL f (k + 1) := by
  apply ext_getDE
  · rw [List.length_set, fillL_len, fillL_len]
  · intro i hi
    rw [List.length_set, fillL_len] at hi
    rw [getD_set _ _ _ _ (by rw [fillL_len]; exact h), fillL_get _ _ _ hi, fillL_get _ _ _ hi]
    by_cases e : k = i
    · subst e; rw [if_pos rfl, if_pos (by omega), hx]
    · rw [if_neg e]
      by_cases e2 : i < k
      · rw [if_pos e2, if_pos (by omega)]
      · rw [if_neg e2, if_neg (by omega)]
theorem extB {a b : List Bool} (h : a.length = b.length) (k : ∀ i, i < a.length → a.getD i false = b.getD i false) : a = b := by
  apply List.ext_getElem h
  intro i h1 h2
  have := k i h1
  simpa [List.getD_eq_getElem?_getD, List.getElem?_eq_getElem h1, List.getElem?_eq_getElem h2] using this
def fillB (f : Nat → Bool) (k : Nat) : List Bool := (List.range 256).map fun i => if i < k then f i else false
theorem fillB_len (f : Nat → Bool) (k : Nat) : (fillB f k).length = 256 := by simp [fillB]
theorem fillB_get (f : Nat → Bool) (k i : Nat) (h : i < 256) : (fillB f k).getD i false = if i < k then f i else false := mapR_getB _ i h
theorem fillB_0 (f : Nat → Bool) : fillB f 0 = List.replicate 256 false := by
  apply extB
  · rw [fillB_len, List.length_replicate]
  · intro i hi
    rw [fillB_len] at hi
    rw [fillB_get _ _ _ hi, if_neg (by omega)]
    rw [List.getD_eq_getElem?_getD, List.getElem?_replicate, if_pos hi]; rfl
theorem fillB_all (f : Nat → Bool) : fillB f 256 = (List.range 256).map f := by
  apply extB
  · rw [fillB_len]; simp
  · intro i hi
    rw [fillB_len] at hi
    rw [fillB_get _ _ _ hi, if_pos hi, mapR_getB _ _ hi]
theorem fillB_set (f : Nat → Bool) (k : Nat) (x : Bool) (h : k < 256) (hx : x = f k) : (fillB f k).set k x = fillB f (k + 1) := by
  apply extB
  · rw [List.length_set, fillB_len, fillB_len]
  · intro i hi
    rw [List.length_set, fillB_len] at hi
    rw [getD_setB _ _ _ _ (by rw [fillB_len]; exact h), fillB_get _ _ _ hi, fillB_get _ _ _ hi]
    by_cases e : k = i
    · subst e; rw [if_pos rfl, if_pos (by omega), hx]
    · rw [if_neg e]
      by_cases e2 : i < k
      · rw [if_pos e2, if_pos (by omega)]
      · rw [if_neg e2, if_neg (by omega)]
theorem fillB_next (f : Nat → Bool) (k : Nat) (h : k < 256) (hx : f k = false) : fillB f k = fillB f (k + 1) := by
  rw [← fillB_set f k false h hx.symm]
  apply extB
  · rw [List.length_set]
  · intro i hi
    rw [fillB_len] at hi
    rw [getD_setB _ _ _ _ (by rw [fillB_len]; exact h)]
    by_cases e : k = i
    · subst e; rw [if_pos rfl, fillB_get _ _ _ hi, if_neg (by omega)]
    · rw [if_neg e]
theorem fill_flo (c : List Int) (L n : Int) : fillL (floZ c L n) 256 = flo c L n := fillL_all _
theorem fill_res (c : List Int) (L n : Int) : fillL (fun s => c.getD s 0 * L % n) 256 = resL c L n := fillL_all _
theorem fill_had (c : List Int) (L n : Int) : fillB (fun s => decide (whZ c L n s = 0)) 256 = hadL c L n := fillB_all _
/-! powers of two -/
theorem shlE (x a : Int) (h0 : 0 ≤ x) (ha : a ≤ 12) (hx : x ≤ 1125899906842624) : shl .i64 x a = x * 2 ^ a.toNat := by
  have hp : ∀ n : Nat, n ≤ 12 → 0 ≤ x * 2 ^ n ∧ x * 2 ^ n ≤ x * 4096 := by
    intro n hn
    have h1 : (2 : Int) ^ n ≤ 4096 := by
      have h3 : (2 : Nat) ^ n ≤ 2 ^ 12 := Nat.pow_le_pow_right (by omega) hn
      have h4 : (2 : Nat) ^ 12 = 4096 := rfl
      rw [show (2 : Int) ^ n = ((2 ^ n : Nat) : Int) from (Int.natCast_pow 2 n).symm]
      omega
    have h2 : (0 : Int) ≤ 2 ^ n := Int.le_of_lt (Int.pow_pos (by omega))
    exact ⟨Int.mul_nonneg h0 h2, Int.mul_le_mul_of_nonneg_left h1 h0⟩
  have h := hp a.toNat (by omega)
  unfold shl
  rw [Nat.min_eq_left (show a.toNat ≤ IntKind.i64.bits by show a.toNat ≤ 64; omega), IntKind.wrap_i64]
  omega
theorem pow_bd (a : Int) (h0 : 1 ≤ a) (h : a ≤ 12) : 2 ≤ (2 : Int) ^ a.toNat ∧ (2 : Int) ^ a.toNat ≤ 4096 := by
  have : a = 1 ∨ a = 2 ∨ a = 3 ∨ a = 4 ∨ a = 5 ∨ a = 6 ∨ a = 7 ∨ a = 8 ∨ a = 9 ∨ a = 10 ∨ a = 11 ∨ a = 12 := by omega
  rcases this with rfl | rfl | rfl | rfl | rfl | rfl | rfl | rfl | rfl | rfl | rfl | rfl <;> decide
/-- the counts that can be normalized -/
def okC (c : List Int) (a : Int) : Prop := totZ c ≠ 0 ∧ 1 ≤ a ∧ a ≤ 12 ∧ manyZ c ≤ 2 ^ a.toNat
instance (c : List Int) (a : Int) : Decidable (okC c a) := by unfold okC; exact inferInstance
theorem okC.good {c : List Int} {a : Int} (h : okC c a) : Good c (2 ^ a.toNat) ∧ totZ c = c.sum := by
  obtain ⟨h1, h2, h3, h4⟩ := h
  have hb := pow_bd a h2 h3
  unfold totZ at h1
  by_cases hr : rightB c = true
  · rw [if_pos hr] at h1
    unfold manyZ at h4
    rw [if_pos hr] at h4
    have := sum_nonneg ((rightB_iff c).1 hr).2.1
    exact ⟨⟨hr, by omega, by omega, by omega, h4⟩, by unfold totZ; rw [if_pos hr]⟩
  · rw [if_neg hr] at h1; exact absurd rfl h1
/-- what is computed -/
structure CntTo (c : List Int) (a : Int) (q : List Int) (e : Int) : Prop where
  yes : okC c a → NormTo c (2 ^ a.toNat) q ∧ e = 0
  no : ¬ okC c a → q = [] ∧ e = 1
theorem cntTo_ex (c : List Int) (a : Int) : ∃ q e, CntTo c a q e := by
  by_cases h : okC c a
  · obtain ⟨q, hq⟩ := norm_ex h.good.1
    exact ⟨q, 0, fun _ => ⟨hq, rfl⟩, fun h' => absurd h h'⟩
  · exact ⟨[], 1, fun h' => absurd h' h, fun _ => ⟨rfl, rfl⟩⟩
theorem wraps {x : Int} (h0 : -4611686018427387904 ≤ x) (h1 : x ≤ 4611686018427387904) : wrap64 x = x := w64' rfl (by omega) (by omega)
theorem sumTo_bd (f : Nat → Int) (B : Int) (h : ∀ i, i < 256 → 0 ≤ f i ∧ f i ≤ B) : ∀ i, i ≤ 256 → 0 ≤ sumTo f i ∧ sumTo f i ≤ i * B
  | 0, _ => by simp [sumTo]
  | i + 1, hi => by
    have h1 := sumTo_bd f B h i (by omega)
    have h2 := h i (by omega)
    simp only [sumTo]
    rw [Int.natCast_add, Int.add_mul]
    omega
theorem mx0 (x : Int) : mx 0 x = (x.toNat : Int) := by unfold mx; split <;> omega
theorem nn_mem {q : List Int} (hq : q.length = 256) (h : ∀ s, s < 256 → 0 ≤ q.getD s 0) : ∀ x, x ∈ q → 0 ≤ x := by
  intro x hx
  obtain ⟨s, hs, rfl⟩ := List.mem_iff_getElem.1 hx
  have := h s (by omega)
  rw [List.getD_eq_getElem?_getD, List.getElem?_eq_getElem hs] at this
  simpa using this
end Go.Proofs.Ytonicgihpjolmaa
namespace Go.Proofs.Ytonicgihpjolmaa
open Go.RowKit Go.Proofs.YtonicgihpjolmaaW.PrintWords Go.Proofs.YtonicgihpjolmaaW.PrintMore PPr
set_option linter.unusedSimpArgs false
set_option linter.unusedVariables false
/-! logs -/
def lg (t : Int) : Nat → Nat → Int × Bool
  | 0, _ => (0, false)
  | d + 1, i => if t = 2 ^ i then ((i : Int), true) else lg t d (i + 1)
theorem lg_two (t : Int) : ∀ d i, 1 ≤ i → (lg t d i).2 = decide (0 < (lg t d i).1)
  | 0, i, _ => by simp [lg]
  | d + 1, i, h => by
    rw [lg]
    split
    · show true = decide (0 < (i : Int)); rw [eq_comm, decide_eq_true_iff]; omega
    · exact lg_two t d (i + 1) (by omega)
theorem log_from (t : Int) : ∀ (d i : Nat), 1 ≤ i → i + d = 13 → Ev (fun k => norm_Log.l0 k t (i : Int)) (lg t d i)
  | 0, i, _, hd => by
    refine Ev.step (fun _ => by rw [norm_Log.l0]) ?_
    exact ev_neg (by omega) (Ev.now _)
  | d + 1, i, h1, hd => by
    refine Ev.step (fun _ => by rw [norm_Log.l0]) ?_
    refine ev_pos (by omega) (ev_pos (by omega) ?_)
    rw [shlE 1 _ (by omega) (by omega) (by omega), Int.one_mul, Int.toNat_natCast, lg, wnext i (by omega)]
    by_cases h : t = 2 ^ i
    · rw [if_pos h]; exact ev_pos h (Ev.now _)
    · rw [if_neg h]; exact ev_neg h (log_from t d (i + 1) (by omega) (by omega))
theorem log_ev (c : List Int) (hm : c.length ≤ 4611686018427387000) : Ev (fun k => norm_Log.f k c) (lg (totZ c) 12 1) := by
  unfold norm_Log.f
  exact Ev.bind (total_ev c hm) (log_from _ 12 1 (by omega) (by omega))
theorem lg_hit (a : Int) (h0 : 1 ≤ a) (h : a ≤ 12) : lg (2 ^ a.toNat) 12 1 = (a, true) := by
  have : a = 1 ∨ a = 2 ∨ a = 3 ∨ a = 4 ∨ a = 5 ∨ a = 6 ∨ a = 7 ∨ a = 8 ∨ a = 9 ∨ a = 10 ∨ a = 11 ∨ a = 12 := by omega
  rcases this with rfl | rfl | rfl | rfl | rfl | rfl | rfl | rfl | rfl | rfl | rfl | rfl <;> decide
/-! some counts -/
structure SomeC (c : List Int) (B : Int) : Prop where
  len : c.length = 256
  nn : ∀ x, x ∈ c → 0 ≤ x
  bd : c.sum ≤ B
theorem some_from (l : List Int) (hw : ∀ x, x ∈ l → 0 ≤ x ∧ x ≤ 65535) : ∀ (d j : Nat) (c : List Int), 2 * j + d = 80 → SomeC c (j * 65535) → ∃ c', Ev (fun k => puncheonref05_Some.l0 k l c ((2 * j : Nat) : Int)) c' ∧ SomeC c' 2621400 := by
  intro d
  induction d using Nat.strongRecOn with
  | _ d ih =>
  intro j c hd hS
  have e1 : wrap64 (((2 * j : Nat) : Int) + 1) = ((2 * j + 1 : Nat) : Int) := wnext _ (by omega)
  by_cases h1 : (2 * j + 1 : Nat) < l.length
  · by_cases h2 : 2 * j < 80
    · have hx := hw _ (getD_memE (l := l) (i := 2 * j) (by omega))
      have hy := hw _ (getD_memE (l := l) (i := 2 * j + 1) (by omega))
      have hM : Int.tmod (rd l ((2 * j : Nat) : Int)) 256 = l.getD (2 * j) 0 % 256 := Int.tmod_eq_emod_of_nonneg hx.1
      generalize hv : l.getD (2 * j) 0 % 256 = v at hM
      have hv0 : 0 ≤ v ∧ v < 256 := by omega
      have hl := hS.len
      obtain ⟨c', hE, hS'⟩ := ih (d - 2) (by omega) (j + 1) (c.set v.toNat (l.getD (2 * j + 1) 0)) (by omega) ⟨by simpa using hl, fun x hx => by
        rcases List.mem_or_eq_of_mem_set hx with h | h
        · exact hS.nn x h
        · rw [h]; exact hy.1, by
        rw [sum_set _ _ _ (by omega)]
        have := hS.bd
        have := hS.nn _ (getD_memE (l := c) (i := v.toNat) (by omega))
        rw [Int.natCast_add, Int.add_mul]
        omega⟩
      refine ⟨c', ?_, hS'⟩
      refine Ev.step (fun _ => by rw [puncheonref05_Some.l0]) ?_
      rw [e1, hM]
      refine ev_pos (by omega) (ev_pos (by omega) (ev_pos (by omega) (ev_pos (by omega) (ev_pos (by omega) (ev_pos (by omega) (ev_pos (by omega) ?_))))))
      rw [show wrap64 (((2 * j : Nat) : Int) + 2) = ((2 * (j + 1) : Nat) : Int) from w64' (by omega) (by omega) (by omega), rd_nat, wraps (by omega) (by omega)]
      exact hE
    · refine ⟨c, ?_, hS.len, hS.nn, by have := hS.bd; omega⟩
      refine Ev.step (fun _ => by rw [puncheonref05_Some.l0]) ?_
      rw [e1]
      exact ev_pos (by omega) (ev_neg (by omega) (Ev.now _))
  · refine ⟨c, ?_, hS.len, hS.nn, by have := hS.bd; omega⟩
    refine Ev.step (fun _ => by rw [puncheonref05_Some.l0]) ?_
    rw [e1]
    exact ev_neg (by omega) (Ev.now _)
theorem some_ev (l : List Int) (hw : ∀ x ∈ l, (Lit.int .u16 x).wf = true) : ∃ c, Ev (fun k => puncheonref05_Some.f k l) c ∧ SomeC c 2621400 := by
  obtain ⟨c, h1, h2⟩ := some_from l (fun x hx => bounds_u16 (hw x hx)) 80 0 (List.replicate 256 0) (by omega) ⟨List.length_replicate, fun x hx => by rw [(List.mem_replicate.1 hx).2]; omega, by
    have := zeros_sum 256; unfold zeros at this; rw [this]; omega⟩
  refine ⟨c, ?_, h2⟩
  unfold puncheonref05_Some.f
  exact ev_pos (by omega) h1
theorem SomeC.right {c : List Int} (h : SomeC c 2621400) : rightB c = true := (rightB_iff c).2 ⟨h.len, h.nn, by have := h.bd; omega⟩
theorem logA (a : Int) (h0 : 0 ≤ a) (h1 : a ≤ 255) : ∃ A : Int, wrap64 (1 + wrap64 (Int.tmod a 12)) = A ∧ 1 ≤ A ∧ A ≤ 12 := by
  rw [Int.tmod_eq_emod_of_nonneg h0, wraps (x := a % 12) (by omega) (by omega), wraps (by omega) (by omega)]
  exact ⟨_, rfl, by omega, by omega⟩
/-! the order -/
theorem flo_mono {c : List Int} {L : Int} (g : Good c L) (a b : Nat) (ha : a < 256) (hb : b < 256) (h : c.getD b 0 < c.getD a 0) : (flo c L c.sum).getD b 0 ≤ (flo c L c.sum).getD a 0 := by
  obtain ⟨P, w, r, p⟩ := g.part a ha
  obtain ⟨P', w', r', p'⟩ := g.part b hb
  have hw : w' ≤ w := by
    rw [← p.hw, ← p'.hw]
    exact Int.ediv_le_ediv g.n0 (Int.mul_le_mul_of_nonneg_right (Int.le_of_lt h) (Int.le_of_lt g.L0))
  have h1 := (flo_bd g a ha).2.2
  have h2 := g.nn b
  have h3 := mn_one h2
  have h4 := p'.w0
  by_cases e : w' = 0
  · have h5 := p'.hf
    rw [if_pos e, h3] at h5
    have : (flo c L c.sum).getD b 0 ≤ 1 := by rw [h5]; split <;> omega
    have := h1.2 (by omega)
    omega
  · rw [p.hf, p'.hf, if_neg e, if_neg (by omega)]; exact hw
theorem norm_order {c : List Int} {L : Int} {q : List Int} (g : Good c L) (hN : NormTo c L q) (a b : Nat) (ha : a < 256) (hb : b < 256) (h : c.getD b 0 < c.getD a 0) : q.getD b 0 ≤ q.getD a 0 := by
  have hf := flo_mono g a b ha hb h
  rcases norm_cases hN with ⟨h1, h2⟩ | ⟨h1, h2⟩
  · obtain ⟨k1, k2, G, k3, k4, k5⟩ := gives_char _ _ _ _ _ (flo_len _ _ _) (hadL_len _ _ _) h2
    have e1 := k3 a
    have e2 := k3 b
    by_cases hG : G b = true
    · by_cases hG2 : G a = true
      · rw [if_pos hG] at e2; rw [if_pos hG2] at e1; omega
      · rw [if_pos hG] at e2; rw [if_neg hG2] at e1
        obtain ⟨P, w, r, p⟩ := g.part a ha
        obtain ⟨P', w', r', p'⟩ := g.part b hb
        have hw : w' ≤ w := by
          rw [← p.hw, ← p'.hw]
          exact Int.ediv_le_ediv g.n0 (Int.mul_le_mul_of_nonneg_right (Int.le_of_lt h) (Int.le_of_lt g.L0))
        have h3 := (k4 b hG).2
        rw [p'.hh] at h3
        have h3 : w' ≠ 0 := by simpa using h3
        have h4 := p'.w0
        have h5 := p.hf
        have h6 := p'.hf
        rw [if_neg h3] at h6
        rw [if_neg (by omega)] at h5
        by_cases he : w = w'
        · exfalso
          subst he
          have hP : P' < P := by
            rw [← p.hP, ← p'.hP]
            exact Int.mul_lt_mul_of_pos_right h g.L0
          have h7 := k5 a b ha hG (by rw [p.hh]; simpa using h3) (by simpa using hG2)
          rw [p.hr, p'.hr] at h7
          have := p.e
          have := p'.e
          omega
        · omega
    · rw [if_neg hG] at e2
      split at e1 <;> omega
  · obtain ⟨k1, k2, k3, k4⟩ := takes_char c _ _ _ (flo_len _ _ _) (fun s hs => (flo_bd g s hs).1) h2
    exact k4 a b ha hb h hf
/-! how near -/
theorem give_rest {c : List Int} {L : Int} {q : List Int} (g : Good c L) (h1 : (flo c L c.sum).sum ≤ L) (h2 : Gives (resL c L c.sum) (L - (flo c L c.sum).sum).toNat (flo c L c.sum) (hadL c L c.sum) q) (s : Nat) (hs : s < 256) :
    q.getD s 0 * c.sum < c.getD s 0 * L + c.sum := by
  obtain ⟨k1, k2, G, k3, k4, k5⟩ := gives_char _ _ _ _ _ (flo_len _ _ _) (hadL_len _ _ _) h2
  obtain ⟨P, w, r, p⟩ := g.part s hs
  have e1 := k3 s
  have hn0 := g.n0
  have hr0 := p.r0
  have hr1 := p.r1
  have hP0 := p.P0
  have he := p.e
  have hf := p.hf
  have hm := mn_one (g.nn s)
  rw [p.hP]
  by_cases hG : G s = true
  · rw [if_pos hG] at e1
    have h3 := (k4 s hG).2
    rw [p.hh] at h3
    have h3 : w ≠ 0 := by simpa using h3
    rw [if_neg h3] at hf
    rw [e1, hf, Int.add_mul, Int.one_mul, Int.mul_comm w]
    refine Decidable.byContradiction fun hc => ?_
    have hr : r = 0 := by omega
    -- all others that have a rest have been given to, so these are more than there were
    have h4 : sumTo (fun i => c.getD i 0 * L) 256 < sumTo (fun i => q.getD i 0 * c.sum) 256 := by
      refine sumTo_lt (fun i hi => ?_) s hs ?_
      · obtain ⟨P', w', r', p'⟩ := g.part i hi
        have f1 := k3 i
        have f2 := p'.hf
        have f3 := mn_one (g.nn i)
        have f4 := p'.e
        have f5 := p'.r0
        have f6 := p'.r1
        have f7 := p'.P0
        have f8 := p'.Ppos
        show c.getD i 0 * L ≤ q.getD i 0 * c.sum
        rw [p'.hP]
        by_cases hw : w' = 0
        · subst hw
          rw [if_pos rfl, f3] at f2
          rw [Int.mul_zero] at f4
          have hGi : ¬ G i = true := by
            intro hh
            have := (k4 i hh).2
            rw [p'.hh] at this; simp at this
          rw [if_neg hGi] at f1
          by_cases hci : 0 < c.getD i 0
          · rw [if_pos hci] at f2
            rw [f1, f2]; omega
          · have hz : c.getD i 0 = 0 := by have := g.nn i; omega
            have hPz := p'.hP
            rw [hz, Int.zero_mul] at hPz
            rw [if_neg hci] at f2
            rw [f1, f2]; omega
        · rw [if_neg hw] at f2
          by_cases hGi : G i = true
          · rw [if_pos hGi] at f1
            rw [f1, f2, Int.add_mul, Int.one_mul, Int.mul_comm w']; omega
          · rw [if_neg hGi] at f1
            have h7 := k5 i s hi hG (by rw [p'.hh]; simpa using hw) (by simpa using hGi)
            rw [p.hr, p'.hr] at h7
            rw [f1, f2, Int.add_zero, Int.mul_comm w']; omega
      · show c.getD s 0 * L < q.getD s 0 * c.sum
        rw [p.hP, e1, hf, Int.add_mul, Int.one_mul, Int.mul_comm w]; omega
    rw [sumTo_mul, sumTo_mul] at h4
    have g1 := sum_sumTo c
    have g2 := sum_sumTo q
    rw [g.len] at g1
    rw [k1] at g2
    rw [← g1, ← g2, k2, show (flo c L c.sum).sum + ((L - (flo c L c.sum).sum).toNat : Int) = L by omega, Int.mul_comm] at h4
    omega
  · rw [if_neg hG] at e1
    rw [e1, hf, hm]
    by_cases hw : w = 0
    · subst hw
      rw [if_pos rfl]
      rw [Int.mul_zero] at he
      have hPp := p.Ppos
      split
      · rename_i hc; have := hPp hc; omega
      · omega
    · rw [if_neg hw, Int.add_zero, Int.mul_comm w]; omega
theorem norm_hi {c : List Int} {L : Int} {q : List Int} (g : Good c L) (hN : NormTo c L q) (s : Nat) (hs : s < 256) : q.getD s 0 * c.sum < c.getD s 0 * L + c.sum := by
  rcases norm_cases hN with ⟨h1, h2⟩ | ⟨h1, h2⟩
  · exact give_rest g h1 h2 s hs
  · obtain ⟨k1, k2, k3, k4⟩ := takes_char c _ _ _ (flo_len _ _ _) (fun s hs => (flo_bd g s hs).1) h2
    obtain ⟨P, w, r, p⟩ := g.part s hs
    have hle : q.getD s 0 * c.sum ≤ (flo c L c.sum).getD s 0 * c.sum := Int.mul_le_mul_of_nonneg_right (k3 s hs).2.1 (Int.le_of_lt g.n0)
    have hf := p.hf
    have hm := mn_one (g.nn s)
    have he := p.e
    have hr0 := p.r0
    have hn0 := g.n0
    have hP0 := p.P0
    have hPp := p.Ppos
    rw [hm] at hf
    rw [hf] at hle
    rw [p.hP]
    by_cases hw : w = 0
    · rw [if_pos hw] at hle
      split at hle
      · rename_i hc; have := hPp hc; omega
      · omega
    · rw [if_neg hw, Int.mul_comm w] at hle; omega
theorem norm_lo {c : List Int} {L : Int} {q : List Int} (g : Good c L) (hN : NormTo c L q) (hall : ∀ t, t < 256 → 0 < c.getD t 0 → c.sum ≤ c.getD t 0 * L) (s : Nat) (hs : s < 256) : q.getD s 0 * c.sum > c.getD s 0 * L - c.sum := by
  have hfl : ∀ t, t < 256 → ∀ P w r, Part c L t P w r → (flo c L c.sum).getD t 0 = w := by
    intro t ht P w r p
    have hf := p.hf
    by_cases hw : w = 0
    · rw [if_pos hw, mn_one (g.nn t)] at hf
      by_cases hc : 0 < c.getD t 0
      · have := hall t ht hc
        rw [p.hP] at this
        have := p.e
        have := p.r1
        rw [hw, Int.mul_zero] at *
        omega
      · rw [if_neg hc] at hf; omega
    · rw [if_neg hw] at hf; exact hf
  have hle : (flo c L c.sum).getD s 0 ≤ q.getD s 0 := by
    rcases norm_cases hN with ⟨h1, h2⟩ | ⟨h1, h2⟩
    · obtain ⟨k1, k2, G, k3, k4, k5⟩ := gives_char _ _ _ _ _ (flo_len _ _ _) (hadL_len _ _ _) h2
      have := k3 s
      split at this <;> omega
    · have hS : (flo c L c.sum).sum ≤ L := by
        have h3 : sumTo (fun i => (flo c L c.sum).getD i 0 * c.sum) 256 ≤ sumTo (fun i => c.getD i 0 * L) 256 := by
          refine sumTo_le fun i hi => ?_
          obtain ⟨P, w, r, p⟩ := g.part i hi
          have := p.e
          have := p.r0
          rw [hfl i hi _ _ _ p, p.hP, Int.mul_comm w]; omega
        rw [sumTo_mul, sumTo_mul] at h3
        have g1 := sum_sumTo c
        have g2 := sum_sumTo (flo c L c.sum)
        rw [g.len] at g1
        rw [flo_len] at g2
        rw [← g1, ← g2, Int.mul_comm c.sum L] at h3
        exact Int.le_of_mul_le_mul_right h3 g.n0
      rw [show ((flo c L c.sum).sum - L).toNat = 0 by omega] at h2
      cases h2
      omega
  obtain ⟨P, w, r, p⟩ := g.part s hs
  have h5 := Int.mul_le_mul_of_nonneg_right hle (Int.le_of_lt g.n0)
  rw [hfl s hs _ _ _ p, Int.mul_comm w] at h5
  have := p.e
  have := p.r1
  rw [p.hP]; omega
/-! once more -/
theorem norm_again {q : List Int} {L : Int} (hl : q.length = 256) (hs : q.sum = L) (hL : 0 < L) (hn : ∀ s, s < 256 → 0 ≤ q.getD s 0) : NormTo q L q := by
  have hf : flo q L q.sum = q := by
    apply ext_getDE (by rw [flo_len, hl])
    intro i hi
    rw [flo_len] at hi
    rw [flo_get _ _ _ _ hi, floZ, whZ, hs, Int.mul_ediv_cancel _ (by omega), mn_one (hn i hi)]
    have := hn i hi
    split
    · split <;> omega
    · rfl
  refine ⟨q, ?_, ?_⟩
  · rw [hf, show (L - q.sum).toNat = 0 by omega]; exact .zero _ _
  · rw [hf, show (q.sum - L).toNat = 0 by omega]; exact .zero _
theorem pos_le_sum {q : List Int} (hl : q.length = 256) (hn : ∀ s, s < 256 → 0 ≤ q.getD s 0) : pos q ≤ q.sum := by
  rw [pos_sumTo, sum_sumTo]
  refine sumTo_le fun i hi => ?_
  have := hn i (by omega)
  split <;> omega
/-! so many times -/
theorem gives_times {rest rest' : List Int} {m : Int} (hm : 0 < m) (hr : ∀ s, s < 256 → rest'.getD s 0 = m * rest.getD s 0) : ∀ {n : Nat} {q : List Int} {had : List Bool} {q' : List Int}, Gives rest n q had q' → Gives rest' n q had q' := by
  intro n q had q' h
  induction h with
  | zero q had => exact .zero q had
  | succ hN _ ih =>
    refine .succ ⟨hN.1, hN.2.1, fun t ht htn => ?_⟩ ih
    rw [hr t ht, hr _ hN.1]
    rcases hN.2.2 t ht htn with h | ⟨h, h'⟩
    · exact .inl (Int.mul_lt_mul_of_pos_left h hm)
    · exact .inr ⟨by rw [h], h'⟩
theorem takes_times {c c' : List Int} {m : Int} (hm : 0 < m) (hr : ∀ s, s < 256 → c'.getD s 0 = m * c.getD s 0) : ∀ {n : Nat} {q q' : List Int}, Takes c n q q' → Takes c' n q q' := by
  intro n q q' h
  induction h with
  | zero q => exact .zero q
  | succ hN h2 _ ih =>
    refine .succ ⟨hN.1, fun t ht => ?_⟩ h2 ih
    rw [hr t ht, hr _ hN.1]
    rcases hN.2 t ht with h | ⟨h, h' | ⟨h', h''⟩⟩
    · exact .inl h
    · exact .inr ⟨h, .inl (Int.mul_lt_mul_of_pos_left h' hm)⟩
    · exact .inr ⟨h, .inr ⟨by rw [h'], h''⟩⟩
theorem times_sum {c c' : List Int} {m : Int} (hl : c.length = 256) (hl' : c'.length = 256) (hr : ∀ s, s < 256 → c'.getD s 0 = m * c.getD s 0) : c'.sum = m * c.sum := by
  rw [sum_sumTo c', sum_sumTo c, hl, hl', Int.mul_comm, ← sumTo_mul]
  exact sumTo_congr fun i hi => by rw [hr i hi, Int.mul_comm]
theorem norm_times {c c' : List Int} {L m : Int} {q : List Int} (g : Good c L) (hl' : c'.length = 256) (hm : 0 < m) (hr : ∀ s, s < 256 → c'.getD s 0 = m * c.getD s 0) (h : NormTo c L q) : NormTo c' L q := by
  have hs := times_sum g.len hl' hr
  have hw : ∀ s, s < 256 → whZ c' L c'.sum s = whZ c L c.sum s := by
    intro s h
    unfold whZ
    rw [hr s h, hs, Int.mul_assoc, Int.mul_ediv_mul_of_pos _ _ hm]
  have hf : flo c' L c'.sum = flo c L c.sum := by
    apply ext_getDE (by rw [flo_len, flo_len])
    intro i hi
    rw [flo_len] at hi
    have h0 := g.nn i
    have h1 := Int.mul_nonneg (Int.le_of_lt hm) h0
    rw [flo_get _ _ _ _ hi, flo_get _ _ _ _ hi, floZ, floZ, hw i hi, hr i hi, mn_one h0, mn_one h1]
    have h2 : 0 < m * c.getD i 0 ↔ 0 < c.getD i 0 := ⟨fun h => Int.pos_of_mul_pos_right h hm, fun h => Int.mul_pos hm h⟩
    by_cases hp : 0 < c.getD i 0
    · rw [if_pos hp, if_pos (h2.2 hp)]
    · rw [if_neg hp, if_neg (fun h => hp (h2.1 h))]
  have hh : hadL c' L c'.sum = hadL c L c.sum := by
    apply extB (by rw [hadL_len, hadL_len])
    intro i hi
    rw [hadL_len] at hi
    rw [hadL_get _ _ _ _ hi, hadL_get _ _ _ _ hi, hw i hi]
  obtain ⟨q1, h1, h2⟩ := h
  refine ⟨q1, ?_, ?_⟩
  · rw [hf, hh]
    refine gives_times hm (fun s h => ?_) h1
    rw [resL_get _ _ _ _ h, resL_get _ _ _ _ h, hr s h, hs, Int.mul_assoc, Int.mul_emod_mul_of_pos _ _ hm]
  · rw [hf]
    exact takes_times hm hr h2
end Go.Proofs.Ytonicgihpjolmaa
