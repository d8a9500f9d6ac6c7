/- What the printed functions of the layer spread, and of its reference, come to. The spread, plainly: how many, where, and how near. -/
import Derived.Test.YtonicgihpjolmaaSo
import Derived.Test.YtonicgihpjolmaaPnr
import Derived.Test.YtonicgihpjolmaaPPrx5
import Derived.Test.YtonicgihpjolmaaPPrx5
import Derived.Test.YtonicgihpjolmaaPPrx5
import Derived.Test.YtonicgihpjolmaaPPrx11
import Derived.Test.YtonicgihpjolmaaPPrx6
import Derived.Test.YtonicgihpjolmaaPPrx6
namespace Go.Proofs.Ytonicgihpjolmaa
open Go.RowKit Go.Proofs.YtonicgihpjolmaaW.PrintWords Go.Proofs.YtonicgihpjolmaaW.PrintMore PPr HK
set_option linter.unusedSimpArgs false
set_option linter.unusedVariables false
theorem getD_pos_take (q : List Int) (hl : q.length = 256) (hn : ∀ x, x ∈ q → 0 ≤ x) (s : Nat) : 0 ≤ q.getD s 0 ∧ q.getD s 0 ≤ q.sum := by
  rcases Nat.lt_or_ge s q.length with h | h
  · have h0 := hn _ (getD_memE h)
    have h1 := sum_take_le hn (s + 1)
    rw [take_snocE q s h, List.sum_append] at h1
    have h2 := sum_nonneg (l := q.take s) (fun x hx => hn x (List.mem_of_mem_take hx))
    simp only [List.sum_cons, List.sum_nil] at h1
    omega
  · have : q.getD s 0 = 0 := by rw [List.getD_eq_getElem?_getD, List.getElem?_eq_none h]; rfl
    rw [this]
    exact ⟨Int.le_refl _, sum_nonneg hn⟩
/-- normalized counts, of a log -/
structure IsN (q : List Int) (r : Nat) : Prop where
  r0 : 1 ≤ r
  r1 : r ≤ 12
  R : rightB q = true
  sm : q.sum = 2 ^ r
theorem pow_nat (r : Nat) (h0 : 1 ≤ r) (h : r ≤ 12) : 2 ≤ (2 : Int) ^ r ∧ (2 : Int) ^ r ≤ 4096 := by
  have := pow_bd r (by omega) (by omega)
  rwa [Int.toNat_natCast] at this
theorem IsN.nq {q : List Int} {r : Nat} (h : IsN q r) : Nq q := by
  obtain ⟨h1, h2, h3⟩ := (rightB_iff q).1 h.R
  have hp := pow_nat r h.r0 h.r1
  have hs := h.sm
  exact ⟨h1, fun s => (getD_pos_take q h1 h2 s).1, fun s => by have := (getD_pos_take q h1 h2 s).2; omega, by omega⟩
theorem lg_spec (t : Int) : ∀ d i, 1 ≤ i → i + d = 13 → (∃ r, i ≤ r ∧ r ≤ 12 ∧ t = 2 ^ r ∧ lg t d i = ((r : Int), true)) ∨ (lg t d i = (0, false))
  | 0, i, _, _ => .inr rfl
  | d + 1, i, h, hd => by
    rw [lg]
    by_cases ht : t = 2 ^ i
    · rw [if_pos ht]; exact .inl ⟨i, Nat.le_refl _, by omega, ht, rfl⟩
    · rw [if_neg ht]
      rcases lg_spec t d (i + 1) (by omega) (by omega) with ⟨r, h1, h2, h3, h4⟩ | h1
      · exact .inl ⟨r, by omega, h2, h3, h4⟩
      · exact .inr h1
/-- a list is normalized counts, or of no log -/
theorem isN_or (q : List Int) : (∃ r, IsN q r ∧ lg (totZ q) 12 1 = ((r : Int), true)) ∨ lg (totZ q) 12 1 = (0, false) := by
  rcases lg_spec (totZ q) 12 1 (by omega) (by omega) with ⟨r, h1, h2, h3, h4⟩ | h
  · refine .inl ⟨r, ?_, h4⟩
    have hp := pow_nat r h1 h2
    unfold totZ at h3
    by_cases hr : rightB q = true
    · rw [if_pos hr] at h3; exact ⟨h1, h2, hr, h3⟩
    · rw [if_neg hr] at h3; omega
  · exact .inr h
theorem IsN.lg {q : List Int} {r : Nat} (h : IsN q r) : lg (totZ q) 12 1 = ((r : Int), true) := by
  have := lg_hit r (by have := h.r0; omega) (by have := h.r1; omega)
  rw [Int.toNat_natCast] at this
  unfold totZ
  rw [if_pos h.R, h.sm]; exact this
/-- the keys in their order, as the code has them -/
structure OrdL (q : List Int) (L : List S) : Prop where
  f : orderF q = some L
  s : Sorted q L
theorem ordL_ex {q : List Int} (h : Nq q) : ∃ L, OrdL q L := by
  obtain ⟨L, h1, h2⟩ := order_ex q h
  exact ⟨L, h1, h2⟩
theorem OrdL.len {q : List Int} {L : List S} (h : OrdL q L) (hN : Nq q) : (L.length : Int) = q.sum := h.s.len hN
theorem OrdL.key {q : List Int} {L : List S} (h : OrdL q L) (i : Nat) (hi : i < L.length) : IsKey q (L.getD i z) := (h.s.mem _).1 (Hp.getD_in z hi)
theorem IsKey.sym {q : List Int} {x : S} (h : IsKey q x) : 0 ≤ x.f2 ∧ x.f2 < 256 := by
  obtain ⟨s, i, h1, h2, h3, rfl⟩ := h
  show 0 ≤ (s : Int) ∧ (s : Int) < 256
  omega
/-- the symbols -/
def symL (L : List S) : List Int := L.map (·.f2)
theorem symL_len (L : List S) : (symL L).length = L.length := by simp [symL]
theorem symL_get (L : List S) (i : Nat) (h : i < L.length) : (symL L).getD i 0 = (L.getD i z).f2 := by
  simp [symL, List.getD_eq_getElem?_getD, List.getElem?_map, List.getElem?_eq_getElem h]
theorem symL_take (L : List S) (i : Nat) (h : i < L.length) : symL (L.take (i + 1)) = symL (L.take i) ++ [(L.getD i z).f2] := by
  unfold symL
  rw [List.take_succ_eq_append_getElem h, List.map_append]
  simp [List.getD_eq_getElem?_getD, List.getElem?_eq_getElem h]
theorem symL_ok {q : List Int} {L : List S} (h : OrdL q L) : ∀ x, x ∈ symL L → 0 ≤ x ∧ x ≤ 255 := by
  intro x hx
  simp only [symL, List.mem_map] at hx
  obtain ⟨y, hy, rfl⟩ := hx
  have := ((h.s.mem y).1 hy).sym
  omega
theorem spreadOf_from {q : List Int} {L : List S} (h : OrdL q L) (hl : L.length ≤ 4096) : ∀ (d i : Nat), i + d = L.length → Ev (fun k => spread_Of.l0 k (symL (L.take i)) L (L.length : Int) (i : Int)) (symL L, 0)
  | 0, i, hd => by
    refine Ev.step (fun _ => by rw [spread_Of.l0]) ?_
    refine ev_neg (by omega) ?_
    rw [List.take_of_length_le (by omega)]
    exact Ev.now _
  | d + 1, i, hd => by
    refine Ev.step (fun _ => by rw [spread_Of.l0]) ?_
    refine ev_pos (by omega) (ev_pos (by omega) (ev_pos (by omega) (ev_pos (by rw [symL_len, List.length_take]; omega) ?_)))
    have hk := (h.key i (by omega)).sym
    have e : rd_T46 L (i : Int) = L.getD i z := rfl
    rw [e, wnext i (by omega), show (L.getD i z).f2 % 256 = (L.getD i z).f2 by omega, ← symL_take L i (by omega)]
    exact spreadOf_from h hl d (i + 1) (by omega)
theorem spreadOf_ev {q : List Int} {r : Nat} {L : List S} (hq : IsN q r) (h : OrdL q L) : Ev (fun k => spread_Of.f k q) (symL L, 0) := by
  have hN := hq.nq
  have h1 := hN.len
  have h2 := h.len hN
  have h3 := hN.sm
  unfold spread_Of.f
  refine Ev.bind (log_ev q (by omega)) ?_
  rw [hq.lg]
  refine ev_pos rfl (ev_obind h.f ?_)
  exact spreadOf_from h (by omega) L.length 0 (by omega)
theorem spreadOf_no {q : List Int} (hm : q.length ≤ 4611686018427387000) (h : lg (totZ q) 12 1 = (0, false)) : Ev (fun k => spread_Of.f k q) (([] : List Int), 1) := by
  unfold spread_Of.f
  refine Ev.bind (log_ev q hm) ?_
  rw [h]
  exact ev_neg (by decide) (Ev.now _)
theorem spreadLog_ev (q : List Int) (hm : q.length ≤ 4611686018427387000) : Ev (fun k => spread_Log.f k q) (lg (totZ q) 12 1).1 := by
  unfold spread_Log.f
  exact Ev.bind (log_ev q hm) (Ev.now _)
theorem spreadPlace_from {q : List Int} {L : List S} (h : OrdL q L) (hN : Nq q) (hl : L.length ≤ 4096) {x : S} (hx : IsKey q x) : ∀ (d i : Nat), i + d = placeZ q x → Ev (fun k => spread_Place.l0 k x.f2 x.f0 L (L.length : Int) (i : Int)) ((placeZ q x : Int), true)
  | 0, i, hd => by
    obtain ⟨h1, h2⟩ := h.s.there hN hx
    obtain rfl : i = placeZ q x := by omega
    refine Ev.step (fun _ => by rw [spread_Place.l0]) ?_
    have e : rd_T46 L (placeZ q x : Int) = L.getD (placeZ q x) z := rfl
    rw [e, h2]
    exact ev_pos (by omega) (ev_pos (by omega) (ev_pos (by omega) (ev_pos rfl (ev_pos rfl (Ev.now _)))))
  | d + 1, i, hd => by
    obtain ⟨h1, h2⟩ := h.s.there hN hx
    have ih := spreadPlace_from h hN hl hx d (i + 1) (by omega)
    refine Ev.step (fun _ => by rw [spread_Place.l0]) ?_
    have e : rd_T46 L (i : Int) = L.getD i z := rfl
    rw [e, wnext i (by omega)]
    refine ev_pos (by omega) (ev_pos (by omega) (ev_pos (by omega) ?_))
    by_cases c1 : (L.getD i z).f2 = x.f2
    · refine ev_pos c1 ?_
      by_cases c2 : (L.getD i z).f0 = x.f0
      · exfalso
        have e2 := (h.key i (by omega)).eq hx c1 c2
        have := h.s.place hN i (by omega)
        rw [e2] at this; omega
      · exact ev_neg c2 ih
    · exact ev_neg c1 ih
theorem spreadPlace_ev {q : List Int} {r : Nat} {L : List S} (hq : IsN q r) (h : OrdL q L) {x : S} (hx : IsKey q x) : Ev (fun k => spread_Place.f k q x.f2 x.f0) ((placeZ q x : Int), true) := by
  have hN := hq.nq
  have h1 := hN.len
  have h2 := h.len hN
  have h3 := hN.sm
  unfold spread_Place.f
  refine Ev.bind (log_ev q (by omega)) ?_
  rw [hq.lg]
  refine ev_pos rfl (ev_obind h.f ?_)
  exact spreadPlace_from h hN (by omega) hx (placeZ q x) 0 (by omega)
theorem spreadPlace_none {q : List Int} {L : List S} (s i : Int) (hl : L.length ≤ 4096) (hno : ∀ x, x ∈ L → ¬ (x.f2 = s ∧ x.f0 = i)) : ∀ (d j : Nat), j + d = L.length → Ev (fun k => spread_Place.l0 k s i L (L.length : Int) (j : Int)) ((0 : Int), false)
  | 0, j, hd => by
    refine Ev.step (fun _ => by rw [spread_Place.l0]) ?_
    exact ev_neg (by omega) (Ev.now _)
  | d + 1, j, hd => by
    have ih := spreadPlace_none (q := q) s i hl hno d (j + 1) (by omega)
    refine Ev.step (fun _ => by rw [spread_Place.l0]) ?_
    have e : rd_T46 L (j : Int) = L.getD j z := rfl
    rw [e, wnext j (by omega)]
    refine ev_pos (by omega) (ev_pos (by omega) (ev_pos (by omega) ?_))
    have hn := hno _ (Hp.getD_in z (show j < L.length by omega))
    by_cases c1 : (L.getD j z).f2 = s
    · exact ev_pos c1 (ev_neg (fun c2 => hn ⟨c1, c2⟩) ih)
    · exact ev_neg c1 ih
theorem spreadPlace_no {q : List Int} {r : Nat} {L : List S} (hq : IsN q r) (h : OrdL q L) (s i : Int) (hno : ∀ x, IsKey q x → ¬ (x.f2 = s ∧ x.f0 = i)) : Ev (fun k => spread_Place.f k q s i) ((0 : Int), false) := by
  have hN := hq.nq
  have h1 := hN.len
  have h2 := h.len hN
  have h3 := hN.sm
  unfold spread_Place.f
  refine Ev.bind (log_ev q (by omega)) ?_
  rw [hq.lg]
  refine ev_pos rfl (ev_obind h.f ?_)
  exact spreadPlace_none (q := q) s i (by omega) (fun x hx => hno x ((h.s.mem x).1 hx)) L.length 0 (by omega)
/-! the reference -/
/-- how many of one symbol's keys are less -/
def lessZ (q : List Int) (t s : Nat) (i : Int) (n : Nat) : Nat := (List.range n).countP fun (j : Nat) => decide ((q.getD t 0 + (j : Int)) * q.getD s 0 < i * q.getD t 0 ∨ ((q.getD t 0 + (j : Int)) * q.getD s 0 = i * q.getD t 0 ∧ t < s))
theorem lessZ_succ (q : List Int) (t s : Nat) (i : Int) (n : Nat) : lessZ q t s i (n + 1) = lessZ q t s i n + if (q.getD t 0 + (n : Int)) * q.getD s 0 < i * q.getD t 0 ∨ ((q.getD t 0 + (n : Int)) * q.getD s 0 = i * q.getD t 0 ∧ t < s) then 1 else 0 := by
  unfold lessZ
  rw [List.range_succ, List.countP_append, List.countP_singleton]
  simp only [decide_eq_true_eq]
theorem lessZ_le (q : List Int) (t s : Nat) (i : Int) (n : Nat) : lessZ q t s i n ≤ n := by
  unfold lessZ
  have := List.countP_le_length (p := fun (j : Nat) => decide ((q.getD t 0 + (j : Int)) * q.getD s 0 < i * q.getD t 0 ∨ ((q.getD t 0 + (j : Int)) * q.getD s 0 = i * q.getD t 0 ∧ t < s))) (l := List.range n)
  rwa [List.length_range] at this
theorem cntK_less (q : List Int) (t s : Nat) (i : Int) : cntK q (fun y => decide (LtK y (key q s i))) t = lessZ q t s i (q.getD t 0).toNat := by
  unfold cntK lessZ
  apply List.countP_congr
  intro j _
  rw [decide_eq_true_iff, decide_eq_true_iff]
  show ((q.getD t 0 + (j : Int)) * q.getD s 0 < i * q.getD t 0 ∨ ((q.getD t 0 + (j : Int)) * q.getD s 0 = i * q.getD t 0 ∧ (t : Int) < (s : Int))) ↔ _
  rw [show ((t : Int) < (s : Int)) ↔ t < s by omega]
theorem placeZ_sum (q : List Int) (s : Nat) (i : Int) : placeZ q (key q s i) = ((List.range 256).map fun t => lessZ q t s i (q.getD t 0).toNat).sum := by
  unfold placeZ
  rw [countP_allK]
  congr 1
  apply List.map_congr_left
  intro t _
  exact cntK_less q t s i
theorem rless_from {q : List Int} (hN : Nq q) (t s : Nat) (ht : t < 256) (hs : s < 256) (i : Int) (h0 : 0 ≤ i) (h1 : i ≤ 8192) : ∀ (d n : Nat), n + d = (q.getD t 0).toNat → Ev (fun k => puncheonref10_less.l0 k q (t : Int) (s : Int) i (lessZ q t s i n : Int) (q.getD t 0 + (n : Int))) (lessZ q t s i (q.getD t 0).toNat : Int)
  | 0, n, hd => by
    have a1 := hN.len
    have a2 := hN.nn t
    have a3 := hN.bd t
    obtain rfl : n = (q.getD t 0).toNat := by omega
    refine Ev.step (fun _ => by rw [puncheonref10_less.l0]) ?_
    rw [rd_nat]
    refine ev_pos (by omega) (ev_pos (by omega) (ev_neg ?_ (Ev.now _)))
    rw [wraps (by omega) (by omega)]; omega
  | d + 1, n, hd => by
    have a1 := hN.len
    have a2 := hN.nn t
    have a3 := hN.bd t
    have a4 := hN.nn s
    have a5 := hN.bd s
    have ih := rless_from hN t s ht hs i h0 h1 d (n + 1) (by omega)
    rw [lessZ_succ] at ih
    have hle := lessZ_le q t s i n
    have b1 := prod_bd (a := q.getD t 0 + (n : Int)) (b := q.getD s 0) (by omega) (by omega) a4 a5
    have b2 := prod_bd (a := i) (b := q.getD t 0) h0 h1 a2 a3
    refine Ev.step (fun _ => by rw [puncheonref10_less.l0]) ?_
    rw [rd_nat, rd_nat]
    refine ev_pos (by omega) (ev_pos (by omega) (ev_pos (by rw [wraps (by omega) (by omega)]; omega) (ev_pos (by omega) (ev_pos (by omega) ?_))))
    rw [show wrap64 (q.getD t 0 + (n : Int) + 1) = q.getD t 0 + ((n + 1 : Nat) : Int) from w64' (by omega) (by omega) (by omega), wraps (x := (q.getD t 0 + (n : Int)) * q.getD s 0) (by omega) (by omega), wraps (x := i * q.getD t 0) (by omega) (by omega), wraps (x := (lessZ q t s i n : Int) + 1) (by omega) (by omega)]
    generalize (q.getD t 0 + (n : Int)) * q.getD s 0 = X at ih ⊢
    generalize i * q.getD t 0 = Y at ih ⊢
    by_cases c1 : X < Y
    · rw [if_pos (.inl c1)] at ih
      exact ev_pos c1 (by rw [Int.natCast_add] at ih; exact ih)
    · refine ev_neg c1 ?_
      by_cases c2 : X = Y
      · refine ev_pos c2 ?_
        by_cases c3 : (t : Int) < (s : Int)
        · rw [if_pos (.inr ⟨c2, by omega⟩)] at ih
          exact ev_pos c3 (by rw [Int.natCast_add] at ih; exact ih)
        · rw [if_neg (by rintro (h | ⟨_, h⟩) <;> omega)] at ih
          exact ev_neg c3 ih
      · rw [if_neg (by rintro (h | ⟨h, _⟩) <;> omega)] at ih
        exact ev_neg c2 ih
theorem rless_ev {q : List Int} (hN : Nq q) (t s : Nat) (ht : t < 256) (hs : s < 256) (i : Int) (h0 : 0 ≤ i) (h1 : i ≤ 8192) : Ev (fun k => puncheonref10_less.f k q (t : Int) (s : Int) i) (lessZ q t s i (q.getD t 0).toNat : Int) := by
  have a1 := hN.len
  unfold puncheonref10_less.f
  refine ev_pos (by omega) (ev_pos (by omega) ?_)
  have := rless_from hN t s ht hs i h0 h1 (q.getD t 0).toNat 0 (by omega)
  rw [show q.getD t 0 + ((0 : Nat) : Int) = q.getD t 0 by omega] at this
  exact this
theorem lessS_bd {q : List Int} (hN : Nq q) (s : Nat) (i : Int) : ∀ n, n ≤ 256 → ((List.range n).map fun t => lessZ q t s i (q.getD t 0).toNat).sum ≤ n * 4096
  | 0, _ => by simp
  | n + 1, hn => by
    have := lessS_bd hN s i n (by omega)
    have h1 := lessZ_le q n s i (q.getD n 0).toNat
    have h2 := hN.bd n
    rw [List.range_succ, List.map_append, List.sum_append]
    simp only [List.map_cons, List.map_nil, List.sum_cons, List.sum_nil]
    omega
theorem rplace_from {q : List Int} (hN : Nq q) (s : Nat) (hs : s < 256) (i : Int) (h0 : 0 ≤ i) (h1 : i ≤ 8192) : ∀ (d n : Nat), n + d = 256 → Ev (fun k => puncheonref10_Place.l0 k q (s : Int) i ((((List.range n).map fun t => lessZ q t s i (q.getD t 0).toNat).sum : Nat) : Int) (n : Int)) (placeZ q (key q s i) : Int)
  | 0, n, hd => by
    have a1 := hN.len
    obtain rfl : n = 256 := by omega
    refine Ev.step (fun _ => by rw [puncheonref10_Place.l0]) ?_
    rw [placeZ_sum]
    exact ev_neg (by omega) (Ev.now _)
  | d + 1, n, hd => by
    have a1 := hN.len
    have ih := rplace_from hN s hs i h0 h1 d (n + 1) (by omega)
    have hb := lessS_bd hN s i (n + 1) (by omega)
    refine Ev.step (fun _ => by rw [puncheonref10_Place.l0]) ?_
    refine ev_pos (by omega) (Ev.bind (rless_ev hN n s (by omega) hs i h0 h1) ?_)
    rw [List.range_succ, List.map_append, List.sum_append] at ih hb
    simp only [List.map_cons, List.map_nil, List.sum_cons, List.sum_nil, Nat.add_zero] at ih hb
    rw [wnext n (by omega), wraps (by omega) (by omega), ← Int.natCast_add]
    exact ih
theorem rplace_ev {q : List Int} (hN : Nq q) (s : Nat) (hs : s < 256) (i : Int) (h0 : 0 ≤ i) (h1 : i ≤ 8192) : Ev (fun k => puncheonref10_Place.f k q (s : Int) i) (placeZ q (key q s i) : Int) := by
  unfold puncheonref10_Place.f
  exact rplace_from hN s hs i h0 h1 256 0 (by omega)
theorem few_from (q : List Int) (hm : q.length ≤ 4611686018427387000) : ∀ (d i n : Nat), i + d = q.length → n ≤ i → ∃ b, Ev (fun k => puncheonref10_Few.l0 k q (n : Int) (i : Int)) b
  | 0, i, n, hd, hn => by
    by_cases h : (n : Int) ≤ 60
    · refine ⟨decide ((lg (totZ q) 12 1).1 ≤ 9), ?_⟩
      refine Ev.step (fun _ => by rw [puncheonref10_Few.l0]) ?_
      exact ev_neg (by omega) (ev_pos h (Ev.bind (rlog_ev q hm) (Ev.now _)))
    · refine ⟨false, ?_⟩
      refine Ev.step (fun _ => by rw [puncheonref10_Few.l0]) ?_
      exact ev_neg (by omega) (ev_neg h (Ev.now _))
  | d + 1, i, n, hd, hn => by
    by_cases h : rd q (i : Int) > 0
    · obtain ⟨b, ih⟩ := few_from q hm d (i + 1) (n + 1) (by omega) (by omega)
      refine ⟨b, ?_⟩
      refine Ev.step (fun _ => by rw [puncheonref10_Few.l0]) ?_
      rw [wnext i (by omega), wnext n (by omega)]
      exact ev_pos (by omega) (ev_pos (by omega) (ev_pos h ih))
    · obtain ⟨b, ih⟩ := few_from q hm d (i + 1) n (by omega) (by omega)
      refine ⟨b, ?_⟩
      refine Ev.step (fun _ => by rw [puncheonref10_Few.l0]) ?_
      rw [wnext i (by omega)]
      exact ev_pos (by omega) (ev_pos (by omega) (ev_neg h ih))
theorem few_ev (q : List Int) (hm : q.length ≤ 4611686018427387000) : ∃ b, Ev (fun k => puncheonref10_Few.f k q) b := by
  unfold puncheonref10_Few.f
  exact few_from q hm q.length 0 0 (by omega) (by omega)
/-- counts of few numbers -/
structure SomeQ (q : List Int) (k : Nat) : Prop where
  N : IsN q k
  k0 : 5 ≤ k
  k1 : k ≤ 9
theorem someQ_loop {c : List Int} (hc : rightB c = true) (ht : totZ c ≠ 0) : ∀ (d : Nat) (k : Nat), k + d = 9 → 5 ≤ k → ∃ (q : List Int) (k' : Nat), Ev (fun n => puncheonref08_Some.l0 n c (k : Int)) (q, (k' : Int)) ∧ SomeQ q k' := by
  intro d
  induction d with
  | zero =>
    intro k hk h5
    have hm := manyZ_bd c
    have hl := ((rightB_iff c).1 hc).1
    obtain rfl : k = 9 := by omega
    obtain ⟨q, e, h⟩ := cntTo_ex c 9
    have ok : okC c 9 := ⟨ht, by omega, by omega, by have : (2 : Int) ^ (9 : Int).toNat = 512 := rfl; omega⟩
    obtain ⟨hN, rfl⟩ := h.yes ok
    obtain ⟨q1, q2, q3⟩ := norm_facts ok.good.1 hN
    have hq0 : ∀ s, s < 256 → 0 ≤ q.getD s 0 := fun s hs => by have := q3 s hs; omega
    refine ⟨q, 9, ?_, ⟨by omega, by omega, (rightB_iff q).2 ⟨q1, nn_mem q1 hq0, by rw [q2]; decide⟩, q2⟩, by omega, by omega⟩
    refine Ev.step (fun _ => by rw [puncheonref08_Some.l0]) ?_
    have hp : Ev (fun k => puncheonref08_power.f k ((9 : Nat) : Int)) 512 := power_ev 9 (by omega) (by omega)
    refine Ev.bind hp (Ev.bind (rmany_ev c (by omega)) (ev_neg (by omega) ?_))
    exact Ev.bind (rcounts_ev c 9 (by omega) h) (Ev.now _)
  | succ d ih =>
    intro k hk h5
    have hm := manyZ_bd c
    have hl := ((rightB_iff c).1 hc).1
    have hp : Ev (fun n => puncheonref08_power.f n (k : Int)) (2 ^ (k : Int).toNat) := power_ev k (by omega) (by omega)
    by_cases hb : (2 : Int) ^ (k : Int).toNat < manyZ c
    · obtain ⟨q, k', h1, h2⟩ := ih (k + 1) (by omega) (by omega)
      refine ⟨q, k', ?_, h2⟩
      refine Ev.step (fun _ => by rw [puncheonref08_Some.l0]) ?_
      refine Ev.bind hp (Ev.bind (rmany_ev c (by omega)) (ev_pos hb ?_))
      rw [wnext k (by omega)]
      exact h1
    · obtain ⟨q, e, h⟩ := cntTo_ex c k
      have ok : okC c k := ⟨ht, by omega, by omega, by omega⟩
      obtain ⟨hN, rfl⟩ := h.yes ok
      obtain ⟨q1, q2, q3⟩ := norm_facts ok.good.1 hN
      have hq0 : ∀ s, s < 256 → 0 ≤ q.getD s 0 := fun s hs => by have := q3 s hs; omega
      have hpb := pow_bd k (by omega) (by omega)
      refine ⟨q, k, ?_, ⟨by omega, by omega, (rightB_iff q).2 ⟨q1, nn_mem q1 hq0, by rw [q2]; omega⟩, by rw [q2, Int.toNat_natCast]⟩, by omega, by omega⟩
      refine Ev.step (fun _ => by rw [puncheonref08_Some.l0]) ?_
      refine Ev.bind hp (Ev.bind (rmany_ev c (by omega)) (ev_neg hb ?_))
      exact Ev.bind (rcounts_ev c k (by omega) h) (Ev.now _)
theorem someQ_ev (l : List Int) (a : Int) (hw : ∀ x ∈ l, (Lit.int .u16 x).wf = true) (h0 : 0 ≤ a) (h1 : a ≤ 255) : ∃ (q : List Int) (k : Nat), Ev (fun n => puncheonref08_Some.f n l a) (q, (k : Int)) ∧ SomeQ q k := by
  obtain ⟨c, hc, sc⟩ := some_ev l hw
  have hl := sc.len
  have hk : wrap64 (5 + wrap64 (Int.tmod a 5)) = ((5 + (a % 5).toNat : Nat) : Int) := by
    rw [Int.tmod_eq_emod_of_nonneg h0, wraps (x := a % 5) (by omega) (by omega), wraps (by omega) (by omega)]; omega
  have hgo : ∀ c', rightB c' = true → totZ c' ≠ 0 → ∃ (q : List Int) (k : Nat), Ev (fun n => puncheonref08_Some.j0 n a c') (q, (k : Int)) ∧ SomeQ q k := by
    intro c' hr ht
    obtain ⟨q, k, h2, h3⟩ := someQ_loop hr ht (4 - (a % 5).toNat) (5 + (a % 5).toNat) (by omega) (by omega)
    refine ⟨q, k, ?_, h3⟩
    refine Ev.step (fun _ => by rw [puncheonref08_Some.j0]) ?_
    rw [hk]
    exact h2
  by_cases ht : totZ c = 0
  · have hz : c.sum = 0 := by unfold totZ at ht; rwa [if_pos sc.right] at ht
    have h7 := getD_pos_take c hl sc.nn 7
    have hs7 := sum_set c 7 1 (by omega)
    have hr7 : rightB (c.set (7 : Int).toNat 1) = true := (rightB_iff _).2 ⟨by simpa using hl, fun x hx => by
      rcases List.mem_or_eq_of_mem_set hx with h | h
      · exact sc.nn x h
      · omega, by show (c.set 7 1).sum ≤ _; omega⟩
    obtain ⟨q, k, h2, h3⟩ := hgo _ hr7 (by unfold totZ; rw [if_pos hr7]; show (c.set 7 1).sum ≠ 0; omega)
    refine ⟨q, k, ?_, h3⟩
    unfold puncheonref08_Some.f
    exact Ev.bind hc (Ev.bind (rtotal_ev c (by omega)) (ev_pos ht (ev_pos (by omega) h2)))
  · obtain ⟨q, k, h2, h3⟩ := hgo c sc.right ht
    refine ⟨q, k, ?_, h3⟩
    unfold puncheonref08_Some.f
    exact Ev.bind hc (Ev.bind (rtotal_ev c (by omega)) (ev_neg ht h2))
end Go.Proofs.Ytonicgihpjolmaa
namespace Go.Proofs.Ytonicgihpjolmaa
open Go.RowKit Go.Proofs.YtonicgihpjolmaaW.PrintWords Go.Proofs.YtonicgihpjolmaaW.PrintMore PPr HK
set_option linter.unusedSimpArgs false
set_option linter.unusedVariables false
theorem sum_single (f : Nat → Nat) (s : Nat) : ∀ n, (∀ t, t < n → t ≠ s → f t = 0) → ((List.range n).map f).sum = if s < n then f s else 0
  | 0, _ => by simp
  | n + 1, h => by
    rw [List.range_succ, List.map_append, List.sum_append, sum_single f s n (fun t ht => h t (by omega))]
    simp only [List.map_cons, List.map_nil, List.sum_cons, List.sum_nil, Nat.add_zero]
    by_cases e : s = n
    · subst e; rw [if_neg (by omega), if_pos (by omega)]; omega
    · rw [h n (by omega) (fun h => e h.symm)]
      by_cases h2 : s < n
      · rw [if_pos h2, if_pos (by omega)]; omega
      · rw [if_neg h2, if_neg (by omega)]
theorem countP_lt (m : Nat) : ∀ n, (List.range n).countP (fun j => decide (j < m)) = min n m
  | 0 => by simp
  | n + 1 => by
    rw [List.range_succ, List.countP_append, countP_lt m n, List.countP_singleton]
    by_cases h : n < m
    · simp [h]; omega
    · simp [h]; omega
/-- a count that goes down: of all up to somewhere -/
theorem countP_down (P : Nat → Bool) (hP : ∀ j, P (j + 1) = true → P j = true) : ∀ n, (List.range n).countP P ≤ n ∧ ∀ j, j < n → (P j = true ↔ j < (List.range n).countP P)
  | 0 => by simp
  | n + 1 => by
    obtain ⟨h0, h⟩ := countP_down P hP n
    have hd : ∀ a b, P (a + b) = true → P a = true := by
      intro a b
      induction b with
      | zero => exact id
      | succ b ih => intro hb; exact ih (hP _ hb)
    rw [List.range_succ, List.countP_append, List.countP_singleton]
    by_cases hn : P n = true
    · rw [if_pos hn]
      have he : (List.range n).countP P = n := by
        rcases Nat.lt_or_ge ((List.range n).countP P) n with h1 | h1
        · have h2 := (h _ h1).1 (hd _ (n - (List.range n).countP P) (by rw [show (List.range n).countP P + (n - (List.range n).countP P) = n by omega]; exact hn))
          omega
        · omega
      rw [he]
      refine ⟨Nat.le_refl _, fun j hj => ⟨fun _ => hj, fun _ => hd j (n - j) (by rw [show j + (n - j) = n by omega]; exact hn)⟩⟩
    · rw [if_neg hn]
      refine ⟨by omega, fun j hj => ?_⟩
      by_cases e : j = n
      · subst e
        constructor
        · intro h1; exact absurd h1 hn
        · intro h1; omega
      · exact h j (by omega)
theorem nat_sumTo (g : Nat → Nat) : ∀ n, ((((List.range n).map g).sum : Nat) : Int) = sumTo (fun t => (g t : Int)) n
  | 0 => rfl
  | n + 1 => by
    rw [List.range_succ, List.map_append, List.sum_append, Int.natCast_add, nat_sumTo g n]
    simp [sumTo]
/-! how many -/
theorem cnt_same {q : List Int} (hN : Nq q) (s : Nat) (i : Int) (hs : s < 256) (h0 : q.getD s 0 ≤ i) (h1 : i < 2 * q.getD s 0) :
    ((allK q).countP (fun y => decide (y.f2 = (s : Int)) && decide (LtK y (key q s i))) : Int) = i - q.getD s 0 := by
  rw [countP_allK, sum_single _ s 256 ?_, if_pos hs]
  · unfold cntK
    have e : (List.range (q.getD s 0).toNat).countP (fun (j : Nat) => decide ((key q s (q.getD s 0 + (j : Int))).f2 = (s : Int)) && decide (LtK (key q s (q.getD s 0 + (j : Int))) (key q s i))) = (List.range (q.getD s 0).toNat).countP (fun j => decide (j < (i - q.getD s 0).toNat)) := by
      apply List.countP_congr
      intro j hj
      rw [List.mem_range] at hj
      rw [Bool.and_eq_true, decide_eq_true_iff, decide_eq_true_iff, decide_eq_true_iff]
      have k1 : IsKey q (key q s (q.getD s 0 + (j : Int))) := ⟨s, _, hs, by omega, by omega, rfl⟩
      have k2 : IsKey q (key q s i) := ⟨s, _, hs, h0, h1, rfl⟩
      rw [lt_same hN k1 k2 rfl]
      show ((s : Int) = (s : Int) ∧ q.getD s 0 + (j : Int) < i) ↔ _
      omega
    rw [e, countP_lt]
    omega
  · intro t ht hne
    unfold cntK
    rw [List.countP_eq_zero]
    intro j _
    have : ¬ (key q t (q.getD t 0 + (j : Int))).f2 = (s : Int) := by show ¬ (t : Int) = (s : Int); omega
    rw [Bool.and_eq_true, decide_eq_true_iff]; exact fun h => this h.1
theorem cnt_all {q : List Int} (hN : Nq q) (s : Nat) (hs : s < 256) : ((allK q).countP (fun y => decide (y.f2 = (s : Int))) : Int) = q.getD s 0 := by
  rw [countP_allK, sum_single _ s 256 ?_, if_pos hs]
  · unfold cntK
    have e : (List.range (q.getD s 0).toNat).countP (fun (j : Nat) => decide ((key q s (q.getD s 0 + (j : Int))).f2 = (s : Int))) = (List.range (q.getD s 0).toNat).length := by
      rw [List.countP_eq_length]
      intro j _
      rw [decide_eq_true_iff]; rfl
    rw [e, List.length_range]
    have := hN.nn s
    omega
  · intro t ht hne
    unfold cntK
    rw [List.countP_eq_zero]
    intro j _
    have : ¬ (key q t (q.getD t 0 + (j : Int))).f2 = (s : Int) := by show ¬ (t : Int) = (s : Int); omega
    rw [decide_eq_true_iff]; exact this
/-- how many of a symbol stand ahead -/
def cntTo (L : List S) (s : Int) (i : Nat) : Nat := (L.take i).countP fun y => decide (y.f2 = s)
theorem cntTo_succ (L : List S) (s : Int) (i : Nat) (h : i < L.length) : cntTo L s (i + 1) = cntTo L s i + if (L.getD i z).f2 = s then 1 else 0 := by
  unfold cntTo
  rw [List.take_succ_eq_append_getElem h, List.countP_append, List.countP_singleton, List.getD_eq_getElem?_getD, List.getElem?_eq_getElem h]
  simp
theorem cntTo_le (L : List S) (s : Int) (i : Nat) : cntTo L s i ≤ i := by
  unfold cntTo
  have := List.countP_le_length (p := fun (y : S) => decide (y.f2 = s)) (l := L.take i)
  rw [List.length_take] at this
  omega
theorem cntTo_all {q : List Int} {L : List S} (h : OrdL q L) (hN : Nq q) (s : Nat) (hs : s < 256) : (cntTo L (s : Int) L.length : Int) = q.getD s 0 := by
  unfold cntTo
  rw [List.take_of_length_le (Nat.le_refl _), (h.s.perm hN).countP_eq]
  exact cnt_all hN s hs
/-- the keys of a symbol rise by one -/
theorem cntTo_key {q : List Int} {L : List S} (h : OrdL q L) (hN : Nq q) (i : Nat) (hi : i < L.length) (s : Nat) (hs : s < 256) (e : (L.getD i z).f2 = (s : Int)) : (L.getD i z).f0 = q.getD s 0 + (cntTo L (s : Int) i : Int) := by
  have h1 := h.s.before hN i hi (fun y => decide (y.f2 = (s : Int)))
  obtain ⟨s', j, k1, k2, k3, k4⟩ := h.key i hi
  rw [k4] at e h1 ⊢
  have e : (s' : Int) = (s : Int) := e
  obtain rfl : s' = s := by omega
  have h2 := cnt_same hN s' j hs k2 k3
  unfold cntTo
  rw [← h1, h2]
  show j = _
  omega
/-! how near -/
theorem near_one {q : List Int} (hN : Nq q) (s t : Nat) (n : Int) (h0 : q.getD s 0 ≤ n) (h1 : n < 2 * q.getD s 0) :
    n * q.getD t 0 ≤ (q.getD t 0 + (lessZ q t s n (q.getD t 0).toNat : Int)) * q.getD s 0 ∧ (q.getD t 0 + (lessZ q t s n (q.getD t 0).toNat : Int)) * q.getD s 0 ≤ n * q.getD t 0 + (if 0 < q.getD t 0 then q.getD s 0 else 0) ∧ (t = s → (q.getD t 0 + (lessZ q t s n (q.getD t 0).toNat : Int)) = n) := by
  have a2 := hN.nn t
  have a4 := hN.nn s
  by_cases hz : q.getD t 0 = 0
  · have hc : lessZ q t s n (q.getD t 0).toNat = 0 := by rw [hz]; rfl
    rw [hc, hz]
    refine ⟨by simp, by simp, ?_⟩
    intro e; subst e; omega
  obtain ⟨c1, c2⟩ := countP_down (fun (j : Nat) => decide ((q.getD t 0 + (j : Int)) * q.getD s 0 < n * q.getD t 0 ∨ ((q.getD t 0 + (j : Int)) * q.getD s 0 = n * q.getD t 0 ∧ t < s))) (by
    intro j hj
    rw [decide_eq_true_iff] at hj ⊢
    have h3 : (q.getD t 0 + ((j + 1 : Nat) : Int)) * q.getD s 0 = (q.getD t 0 + (j : Int)) * q.getD s 0 + q.getD s 0 := by
      rw [show q.getD t 0 + ((j + 1 : Nat) : Int) = (q.getD t 0 + (j : Int)) + 1 by omega, Int.add_mul, Int.one_mul]
    rw [h3] at hj
    omega) (q.getD t 0).toNat
  change lessZ q t s n (q.getD t 0).toNat ≤ _ at c1
  change ∀ j, j < _ → (_ ↔ j < lessZ q t s n (q.getD t 0).toNat) at c2
  generalize lessZ q t s n (q.getD t 0).toNat = c at c1 c2
  have hlo : n * q.getD t 0 ≤ (q.getD t 0 + (c : Int)) * q.getD s 0 := by
    rcases Nat.lt_or_ge c (q.getD t 0).toNat with h3 | h3
    · have h4 := c2 c h3
      rw [decide_eq_true_iff] at h4
      have : ¬ (c < c) := by omega
      have h5 := fun h => this (h4.1 h)
      omega
    · have e : (c : Int) = q.getD t 0 := by omega
      rw [e, Int.mul_comm n, show q.getD t 0 + q.getD t 0 = q.getD t 0 * 2 by omega, Int.mul_assoc]
      exact Int.mul_le_mul_of_nonneg_left (by omega) a2
  have hhi : (q.getD t 0 + (c : Int)) * q.getD s 0 ≤ n * q.getD t 0 + q.getD s 0 := by
    rcases Nat.eq_zero_or_pos c with h3 | h3
    · subst h3
      have := Int.mul_le_mul_of_nonneg_right h0 a2
      rw [Int.mul_comm (q.getD s 0)] at this
      simp only [Int.natCast_zero, Int.add_zero]
      omega
    · have h4 := (c2 (c - 1) (by omega)).2 (by omega)
      rw [decide_eq_true_iff] at h4
      have h5 : (q.getD t 0 + (c : Int)) * q.getD s 0 = (q.getD t 0 + ((c - 1 : Nat) : Int)) * q.getD s 0 + q.getD s 0 := by
        rw [show q.getD t 0 + (c : Int) = (q.getD t 0 + ((c - 1 : Nat) : Int)) + 1 by omega, Int.add_mul, Int.one_mul]
      omega
  refine ⟨hlo, by rw [if_pos (by omega)]; exact hhi, ?_⟩
  intro e
  subst e
  have h3 : n ≤ q.getD t 0 + (c : Int) := Int.le_of_mul_le_mul_right hlo (by omega)
  rcases Nat.eq_zero_or_pos c with h4 | h4
  · omega
  · have h4 := (c2 (c - 1) (by omega)).2 (by omega)
    rw [decide_eq_true_iff] at h4
    have h5 : (q.getD t 0 + ((c - 1 : Nat) : Int)) * q.getD t 0 < n * q.getD t 0 := by omega
    have := Int.lt_of_mul_lt_mul_right h5 a2
    omega
theorem sumTo_gap {f g : Nat → Int} : ∀ {n : Nat}, (∀ i, i < n → f i ≤ g i) → ∀ j d, j < n → f j + d ≤ g j → sumTo f n + d ≤ sumTo g n
  | 0, _, j, d, hj, _ => by omega
  | n + 1, h, j, d, hj, hl => by
    have h2 := h n (by omega)
    simp only [sumTo]
    by_cases e : j = n
    · subst e
      have h1 := sumTo_le (n := j) (fun i hi => h i (by omega))
      omega
    · have h1 := sumTo_gap (n := n) (fun i hi => h i (by omega)) j d (by omega) hl
      omega
/-- how many symbols are there -/
def haveTo (q : List Int) (n : Nat) : Nat := ((List.range n).map fun t => if 0 < q.getD t 0 then 1 else 0).sum
theorem haveTo_succ (q : List Int) (n : Nat) : haveTo q (n + 1) = haveTo q n + if 0 < q.getD n 0 then 1 else 0 := by
  unfold haveTo; rw [List.range_succ, List.map_append, List.sum_append]; simp
theorem haveTo_le (q : List Int) : ∀ n, haveTo q n ≤ n
  | 0 => by simp [haveTo]
  | n + 1 => by have := haveTo_le q n; rw [haveTo_succ]; split <;> omega
theorem have_sum (q : List Int) (c : Int) : ∀ n, sumTo (fun t => if 0 < q.getD t 0 then c else 0) n = (haveTo q n : Int) * c
  | 0 => by simp [sumTo, haveTo]
  | n + 1 => by
    simp only [sumTo]
    rw [haveTo_succ, have_sum q c n, Int.natCast_add, Int.add_mul]
    split <;> simp
theorem place_near {q : List Int} (hN : Nq q) (s : Nat) (hs : s < 256) (n : Int) (h0 : q.getD s 0 ≤ n) (h1 : n < 2 * q.getD s 0) :
    n * q.sum ≤ (q.sum + (placeZ q (key q s n) : Int)) * q.getD s 0 ∧ (q.sum + (placeZ q (key q s n) : Int)) * q.getD s 0 + q.getD s 0 ≤ n * q.sum + (haveTo q 256 : Int) * q.getD s 0 := by
  have hq := sum_sumTo q
  rw [hN.len] at hq
  have e1 : (q.sum + (placeZ q (key q s n) : Int)) * q.getD s 0 = sumTo (fun t => (q.getD t 0 + (lessZ q t s n (q.getD t 0).toNat : Int)) * q.getD s 0) 256 := by
    rw [sumTo_mul, sumTo_add, ← hq, placeZ_sum, nat_sumTo]
  have e2 : n * q.sum = sumTo (fun t => n * q.getD t 0) 256 := by
    rw [hq, Int.mul_comm, ← sumTo_mul]
    exact sumTo_congr fun i _ => Int.mul_comm _ _
  constructor
  · rw [e1, e2]
    exact sumTo_le fun i _ => (near_one hN s i n h0 h1).1
  · rw [e1, e2, ← have_sum, ← sumTo_add]
    refine sumTo_gap (fun i _ => (near_one hN s i n h0 h1).2.1) s _ hs ?_
    rw [(near_one hN s s n h0 h1).2.2 rfl, if_pos (by omega)]
    omega
/-! the first ones -/
theorem place_first {q : List Int} (hN : Nq q) (s : Nat) (hs : s < 256) (h0 : 0 < q.getD s 0) : placeZ q (key q s (q.getD s 0)) = haveTo q s := by
  rw [placeZ_sum]
  have h : ∀ t, t < 256 → lessZ q t s (q.getD s 0) (q.getD t 0).toNat = if t < s ∧ 0 < q.getD t 0 then 1 else 0 := by
    intro t ht
    have a := hN.nn t
    have e : lessZ q t s (q.getD s 0) (q.getD t 0).toNat = (List.range (q.getD t 0).toNat).countP fun j => decide (j < if t < s then 1 else 0) := by
      unfold lessZ
      apply List.countP_congr
      intro j _
      rw [decide_eq_true_iff, decide_eq_true_iff]
      have h2 : (q.getD t 0 + (j : Int)) * q.getD s 0 = q.getD s 0 * q.getD t 0 + (j : Int) * q.getD s 0 := by rw [Int.add_mul, Int.mul_comm]
      have h3 : 0 ≤ (j : Int) * q.getD s 0 := Int.mul_nonneg (by omega) (by omega)
      rw [h2]
      rcases Nat.eq_zero_or_pos j with hj | hj
      · subst hj
        rw [show ((0 : Nat) : Int) * q.getD s 0 = 0 by simp]
        generalize q.getD s 0 * q.getD t 0 = X
        by_cases c : t < s
        · rw [if_pos c]; omega
        · rw [if_neg c]; omega
      · have h4 : q.getD s 0 ≤ (j : Int) * q.getD s 0 := by
          have := Int.mul_le_mul_of_nonneg_right (show (1 : Int) ≤ (j : Int) by omega) (Int.le_of_lt h0)
          omega
        generalize q.getD s 0 * q.getD t 0 = X
        generalize (j : Int) * q.getD s 0 = Y at h3 h4
        by_cases c : t < s
        · rw [if_pos c]; omega
        · rw [if_neg c]; omega
    rw [e, countP_lt]
    by_cases h5 : t < s
    · rw [if_pos h5]
      by_cases h6 : 0 < q.getD t 0
      · rw [if_pos ⟨h5, h6⟩]; omega
      · rw [if_neg (fun h => h6 h.2)]; omega
    · rw [if_neg h5, if_neg (fun h => h5 h.1)]; omega
  have h2 : ∀ n, n ≤ 256 → ((List.range n).map fun t => lessZ q t s (q.getD s 0) (q.getD t 0).toNat).sum = haveTo q (min n s) := by
    intro n
    induction n with
    | zero => intro _; simp [haveTo]
    | succ n ih =>
      intro hn
      rw [List.range_succ, List.map_append, List.sum_append, ih (by omega)]
      simp only [List.map_cons, List.map_nil, List.sum_cons, List.sum_nil, Nat.add_zero]
      rw [h n (by omega)]
      by_cases c : n < s
      · rw [show min (n + 1) s = n + 1 by omega, show min n s = n by omega, haveTo_succ]
        congr 1
        by_cases c2 : 0 < q.getD n 0
        · rw [if_pos ⟨c, c2⟩, if_pos c2]
        · rw [if_neg (fun h => c2 h.2), if_neg c2]
      · rw [show min (n + 1) s = s by omega, show min n s = s by omega, if_neg (fun h => c h.1)]
        rfl
  rw [h2 256 (Nat.le_refl _), show min 256 s = s by omega]
/-! place by place -/
def doneK (s : Nat) (i : Int) (x : S) : Prop := x.f2 < (s : Int) ∨ (x.f2 = (s : Int) ∧ x.f0 < i)
instance (s : Nat) (i : Int) (x : S) : Decidable (doneK s i x) := by unfold doneK; exact inferInstance
theorem mapL_getD {α : Type} (d : α) (f : S → α) (L : List S) (i : Nat) (h : i < L.length) : (L.map f).getD i d = f (L.getD i z) := by
  simp [List.getD_eq_getElem?_getD, List.getElem?_map, List.getElem?_eq_getElem h]
theorem ext_getDA {α : Type} (d : α) {a b : List α} (h : a.length = b.length) (k : ∀ i, i < a.length → a.getD i d = b.getD i d) : a = b := by
  apply List.ext_getElem h
  intro i h1 h2
  have := k i h1
  simpa [List.getD_eq_getElem?_getD, List.getElem?_eq_getElem h1, List.getElem?_eq_getElem h2] using this
theorem getD_setA {α : Type} (d : α) (l : List α) (i j : Nat) (x : α) (h : i < l.length) : (l.set i x).getD j d = if i = j then x else l.getD j d := by
  simp only [List.getD_eq_getElem?_getD, List.getElem?_set]
  split
  · rename_i e; subst e; simp [h]
  · rfl
/-- what stands at the keys that are done -/
def filK {α : Type} (d : α) (f : S → α) (L : List S) (s : Nat) (i : Int) : List α := L.map fun x => if doneK s i x then f x else d
theorem filK_len {α : Type} (d : α) (f : S → α) (L : List S) (s : Nat) (i : Int) : (filK d f L s i).length = L.length := by simp [filK]
theorem filK_set {α : Type} (d : α) (f : S → α) {q : List Int} {L : List S} (h : OrdL q L) (hN : Nq q) (s : Nat) (hs : s < 256) (i : Int) (h0 : q.getD s 0 ≤ i) (h1 : i < 2 * q.getD s 0) :
    (filK d f L s i).set (placeZ q (key q s i)) (f (key q s i)) = filK d f L s (i + 1) := by
  have hk : IsKey q (key q s i) := ⟨s, i, hs, h0, h1, rfl⟩
  obtain ⟨p1, p2⟩ := h.s.there hN hk
  refine ext_getDA d (by rw [List.length_set, filK_len, filK_len]) fun j hj => ?_
  rw [List.length_set, filK_len] at hj
  rw [getD_setA _ _ _ _ _ (by rw [filK_len]; exact p1)]
  unfold filK
  rw [mapL_getD d _ L j hj, mapL_getD d _ L j hj]
  by_cases e : placeZ q (key q s i) = j
  · rw [if_pos e, ← e, p2, if_pos]
    exact .inr ⟨rfl, by show i < i + 1; omega⟩
  · rw [if_neg e]
    have hx := h.key j hj
    have hp := h.s.place hN j hj
    generalize L.getD j z = x at hx hp
    have hne : x ≠ key q s i := fun e2 => e (by rw [← hp, e2])
    by_cases c : doneK s i x
    · rw [if_pos c, if_pos]
      rcases c with c | ⟨c, c'⟩
      · exact .inl c
      · exact .inr ⟨c, by omega⟩
    · rw [if_neg c, if_neg]
      rintro (c' | ⟨c1, c2⟩)
      · exact c (.inl c')
      · have : x.f0 ≠ i := fun e2 => hne (hx.eq hk c1 e2)
        exact c (.inr ⟨c1, by omega⟩)
theorem filK_next {α : Type} (d : α) (f : S → α) {q : List Int} {L : List S} (h : OrdL q L) (s : Nat) : filK d f L s (2 * q.getD s 0) = filK d f L (s + 1) (q.getD (s + 1) 0) := by
  unfold filK
  apply List.map_congr_left
  intro x hx
  obtain ⟨t, i, k1, k2, k3, rfl⟩ := (h.s.mem x).1 hx
  have e : doneK s (2 * q.getD s 0) (key q t i) ↔ doneK (s + 1) (q.getD (s + 1) 0) (key q t i) := by
    show ((t : Int) < (s : Int) ∨ ((t : Int) = (s : Int) ∧ i < 2 * q.getD s 0)) ↔ ((t : Int) < ((s + 1 : Nat) : Int) ∨ ((t : Int) = ((s + 1 : Nat) : Int) ∧ i < q.getD (s + 1) 0))
    constructor
    · rintro (h | ⟨h, _⟩)
      · left; omega
      · left; omega
    · rintro (h | ⟨h, h'⟩)
      · rcases Nat.lt_or_ge t s with h2 | h2
        · left; omega
        · right
          obtain rfl : t = s := by omega
          exact ⟨rfl, k3⟩
      · exfalso
        obtain rfl : t = s + 1 := by omega
        omega
  by_cases c : doneK s (2 * q.getD s 0) (key q t i)
  · rw [if_pos c, if_pos (e.1 c)]
  · rw [if_neg c, if_neg (fun h => c (e.2 h))]
theorem filK_start {α : Type} (d : α) (f : S → α) {q : List Int} {L : List S} (h : OrdL q L) : filK d f L 0 (q.getD 0 0) = List.replicate L.length d := by
  refine ext_getDA d (by rw [filK_len, List.length_replicate]) fun j hj => ?_
  rw [filK_len] at hj
  unfold filK
  rw [mapL_getD d _ L j hj, show (List.replicate L.length d).getD j d = d by rw [List.getD_eq_getElem?_getD, List.getElem?_replicate, if_pos hj]; rfl, if_neg]
  obtain ⟨t, i, k1, k2, k3, e⟩ := h.key j hj
  rw [e]
  rintro (c | ⟨c, c'⟩)
  · have : (t : Int) < 0 := c
    omega
  · have c : (t : Int) = 0 := c
    obtain rfl : t = 0 := by omega
    have : i < q.getD 0 0 := c'
    omega
theorem filK_end {α : Type} (d : α) (f : S → α) {q : List Int} {L : List S} (h : OrdL q L) (i : Int) : filK d f L 256 i = L.map f := by
  unfold filK
  apply List.map_congr_left
  intro x hx
  have := ((h.s.mem x).1 hx).sym
  rw [if_pos (.inl (by omega))]
end Go.Proofs.Ytonicgihpjolmaa
