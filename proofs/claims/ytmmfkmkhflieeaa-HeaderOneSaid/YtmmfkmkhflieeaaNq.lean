/- Normalized counts in plain: of a log, and those that the statements make. -/
import Derived.Test.YtmmfkmkhflieeaaPm
import Derived.Test.YtmmfkmkhflieeaaLw
import Derived.Test.YtmmfkmkhflieeaaPPrx10
namespace Go.Proofs.Ytmmfkmkhflieeaa
open Go.RowKit Go.Proofs.YtmmfkmkhflieeaaW.PrintWords Go.Proofs.YtmmfkmkhflieeaaW.PrintMore PPr
set_option linter.unusedSimpArgs false
set_option linter.unusedVariables false
theorem getD_pos_take (q : List Int) (hl : q.length = 256) (hn : ∀ x, x ∈ q → 0 ≤ x) (s : Nat) : 0 ≤ q.getD s 0 ∧ q.getD s 0 ≤ q.sum := by
  rcases Nat.lt_or_ge s q.length with h | h
  · have h0 := hn _ (getD_memE h)
    have h1 := sum_take_le hn (s + 1)
    rw [take_snocE q s h, List.sum_append] at h1
    have h2 := sum_nonneg (l := q.take s) (fun x hx => hn x (List.mem_of_mem_take hx))
    simp only [List.sum_cons, List.sum_nil] at h1
    omega
  · have : q.getD s 0 = 0 := by rw [List.getD_eq_getElem?_getD, List.getElem?_eq_none h]; rfl
    rw [this]
    exact ⟨Int.le_refl _, sum_nonneg hn⟩
/-- normalized counts, of a log -/
structure IsN (q : List Int) (r : Nat) : Prop where
  r0 : 1 ≤ r
  r1 : r ≤ 12
  R : rightB q = true
  sm : q.sum = 2 ^ r
theorem pow_nat (r : Nat) (h0 : 1 ≤ r) (h : r ≤ 12) : 2 ≤ (2 : Int) ^ r ∧ (2 : Int) ^ r ≤ 4096 := by
  have := pow_bd r (by omega) (by omega)
  rwa [Int.toNat_natCast] at this
theorem lg_spec (t : Int) : ∀ d i, 1 ≤ i → i + d = 13 → (∃ r, i ≤ r ∧ r ≤ 12 ∧ t = 2 ^ r ∧ lg t d i = ((r : Int), true)) ∨ (lg t d i = (0, false))
  | 0, i, _, _ => .inr rfl
  | d + 1, i, h, hd => by
    rw [lg]
    by_cases ht : t = 2 ^ i
    · rw [if_pos ht]; exact .inl ⟨i, Nat.le_refl _, by omega, ht, rfl⟩
    · rw [if_neg ht]
      rcases lg_spec t d (i + 1) (by omega) (by omega) with ⟨r, h1, h2, h3, h4⟩ | h1
      · exact .inl ⟨r, by omega, h2, h3, h4⟩
      · exact .inr h1
/-- a list is normalized counts, or of no log -/
theorem isN_or (q : List Int) : (∃ r, IsN q r ∧ lg (totZ q) 12 1 = ((r : Int), true)) ∨ lg (totZ q) 12 1 = (0, false) := by
  rcases lg_spec (totZ q) 12 1 (by omega) (by omega) with ⟨r, h1, h2, h3, h4⟩ | h
  · refine .inl ⟨r, ?_, h4⟩
    have hp := pow_nat r h1 h2
    unfold totZ at h3
    by_cases hr : rightB q = true
    · rw [if_pos hr] at h3; exact ⟨h1, h2, hr, h3⟩
    · rw [if_neg hr] at h3; omega
  · exact .inr h
theorem IsN.lg {q : List Int} {r : Nat} (h : IsN q r) : lg (totZ q) 12 1 = ((r : Int), true) := by
  have := lg_hit r (by have := h.r0; omega) (by have := h.r1; omega)
  rw [Int.toNat_natCast] at this
  unfold totZ
  rw [if_pos h.R, h.sm]; exact this
/-- counts of few numbers -/
structure SomeQ (q : List Int) (k : Nat) : Prop where
  N : IsN q k
  k0 : 5 ≤ k
  k1 : k ≤ 9
theorem someQ_loop {c : List Int} (hc : rightB c = true) (ht : totZ c ≠ 0) : ∀ (d : Nat) (k : Nat), k + d = 9 → 5 ≤ k → ∃ (q : List Int) (k' : Nat), Ev (fun n => puncheonref08_Some.l0 n c (k : Int)) (q, (k' : Int)) ∧ SomeQ q k' := by
  intro d
  induction d with
  | zero =>
    intro k hk h5
    have hm := manyZ_bd c
    have hl := ((rightB_iff c).1 hc).1
    obtain rfl : k = 9 := by omega
    obtain ⟨q, e, h⟩ := cntTo_ex c 9
    have ok : okC c 9 := ⟨ht, by omega, by omega, by have : (2 : Int) ^ (9 : Int).toNat = 512 := rfl; omega⟩
    obtain ⟨hN, rfl⟩ := h.yes ok
    obtain ⟨q1, q2, q3⟩ := norm_facts ok.good.1 hN
    have hq0 : ∀ s, s < 256 → 0 ≤ q.getD s 0 := fun s hs => by have := q3 s hs; omega
    refine ⟨q, 9, ?_, ⟨by omega, by omega, (rightB_iff q).2 ⟨q1, nn_mem q1 hq0, by rw [q2]; decide⟩, q2⟩, by omega, by omega⟩
    refine Ev.step (fun _ => by rw [puncheonref08_Some.l0]) ?_
    have hp : Ev (fun k => puncheonref08_power.f k ((9 : Nat) : Int)) 512 := power_ev 9 (by omega) (by omega)
    refine Ev.bind hp (Ev.bind (rmany_ev c (by omega)) (ev_neg (by omega) ?_))
    exact Ev.bind (rcounts_ev c 9 (by omega) h) (Ev.now _)
  | succ d ih =>
    intro k hk h5
    have hm := manyZ_bd c
    have hl := ((rightB_iff c).1 hc).1
    have hp : Ev (fun n => puncheonref08_power.f n (k : Int)) (2 ^ (k : Int).toNat) := power_ev k (by omega) (by omega)
    by_cases hb : (2 : Int) ^ (k : Int).toNat < manyZ c
    · obtain ⟨q, k', h1, h2⟩ := ih (k + 1) (by omega) (by omega)
      refine ⟨q, k', ?_, h2⟩
      refine Ev.step (fun _ => by rw [puncheonref08_Some.l0]) ?_
      refine Ev.bind hp (Ev.bind (rmany_ev c (by omega)) (ev_pos hb ?_))
      rw [wnext k (by omega)]
      exact h1
    · obtain ⟨q, e, h⟩ := cntTo_ex c k
      have ok : okC c k := ⟨ht, by omega, by omega, by omega⟩
      obtain ⟨hN, rfl⟩ := h.yes ok
      obtain ⟨q1, q2, q3⟩ := norm_facts ok.good.1 hN
      have hq0 : ∀ s, s < 256 → 0 ≤ q.getD s 0 := fun s hs => by have := q3 s hs; omega
      have hpb := pow_bd k (by omega) (by omega)
      refine ⟨q, k, ?_, ⟨by omega, by omega, (rightB_iff q).2 ⟨q1, nn_mem q1 hq0, by rw [q2]; omega⟩, by rw [q2, Int.toNat_natCast]⟩, by omega, by omega⟩
      refine Ev.step (fun _ => by rw [puncheonref08_Some.l0]) ?_
      refine Ev.bind hp (Ev.bind (rmany_ev c (by omega)) (ev_neg hb ?_))
      exact Ev.bind (rcounts_ev c k (by omega) h) (Ev.now _)
theorem someQ_ev (l : List Int) (a : Int) (hw : ∀ x ∈ l, (Lit.int .u16 x).wf = true) (h0 : 0 ≤ a) (h1 : a ≤ 255) : ∃ (q : List Int) (k : Nat), Ev (fun n => puncheonref08_Some.f n l a) (q, (k : Int)) ∧ SomeQ q k := by
  obtain ⟨c, hc, sc⟩ := some_ev l hw
  have hl := sc.len
  have hk : wrap64 (5 + wrap64 (Int.tmod a 5)) = ((5 + (a % 5).toNat : Nat) : Int) := by
    rw [Int.tmod_eq_emod_of_nonneg h0, wraps (x := a % 5) (by omega) (by omega), wraps (by omega) (by omega)]; omega
  have hgo : ∀ c', rightB c' = true → totZ c' ≠ 0 → ∃ (q : List Int) (k : Nat), Ev (fun n => puncheonref08_Some.j0 n a c') (q, (k : Int)) ∧ SomeQ q k := by
    intro c' hr ht
    obtain ⟨q, k, h2, h3⟩ := someQ_loop hr ht (4 - (a % 5).toNat) (5 + (a % 5).toNat) (by omega) (by omega)
    refine ⟨q, k, ?_, h3⟩
    refine Ev.step (fun _ => by rw [puncheonref08_Some.j0]) ?_
    rw [hk]
    exact h2
  by_cases ht : totZ c = 0
  · have hz : c.sum = 0 := by unfold totZ at ht; rwa [if_pos sc.right] at ht
    have h7 := getD_pos_take c hl sc.nn 7
    have hs7 := sum_set c 7 1 (by omega)
    have hr7 : rightB (c.set (7 : Int).toNat 1) = true := (rightB_iff _).2 ⟨by simpa using hl, fun x hx => by
      rcases List.mem_or_eq_of_mem_set hx with h | h
      · exact sc.nn x h
      · omega, by show (c.set 7 1).sum ≤ _; omega⟩
    obtain ⟨q, k, h2, h3⟩ := hgo _ hr7 (by unfold totZ; rw [if_pos hr7]; show (c.set 7 1).sum ≠ 0; omega)
    refine ⟨q, k, ?_, h3⟩
    unfold puncheonref08_Some.f
    exact Ev.bind hc (Ev.bind (rtotal_ev c (by omega)) (ev_pos ht (ev_pos (by omega) h2)))
  · obtain ⟨q, k, h2, h3⟩ := hgo c sc.right ht
    refine ⟨q, k, ?_, h3⟩
    unfold puncheonref08_Some.f
    exact Ev.bind hc (Ev.bind (rtotal_ev c (by omega)) (ev_neg ht h2))
end Go.Proofs.Ytmmfkmkhflieeaa
