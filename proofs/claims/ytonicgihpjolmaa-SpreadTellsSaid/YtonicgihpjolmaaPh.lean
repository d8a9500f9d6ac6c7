/- What the printed functions of the layer hist, and of its reference, come to. -/
import Derived.Test.YtonicgihpjolmaaEv
import Derived.Test.YtonicgihpjolmaaHs
import Derived.Test.YtonicgihpjolmaaPPrx3
import Derived.Test.YtonicgihpjolmaaPPrx3
import Derived.Test.YtonicgihpjolmaaPPrx5
import Derived.Test.YtonicgihpjolmaaPPrx8
import Derived.Test.YtonicgihpjolmaaPPrx5
namespace Go.Proofs.Ytonicgihpjolmaa
open Go.RowKit Go.Proofs.YtonicgihpjolmaaW.PrintWords PPr
set_option linter.unusedSimpArgs false
set_option linter.unusedVariables false
theorem right_from (l : List Int) (hm : l.length ≤ 4611686018427387000) : ∀ (d i : Nat), i + d = l.length → sofar (l.take i) → Ev (fun k => hist_Right.l0 k l (l.take i).sum l (l.length : Int) (i : Int)) (rightB l)
  | 0, i, hd, hs => by
    refine Ev.step (fun _ => rfl) (ev_neg (by omega) ?_)
    rw [List.take_of_length_le (by omega)] at hs
    refine ev_eq (Ev.now _) ?_
    rw [rightB_sofar hs, Bool.eq_iff_iff, beq_iff_eq, decide_eq_true_iff]
    omega
  | d + 1, i, hd, hs => by
    have hb := sofar_bd hs
    refine Ev.step (fun _ => rfl) (ev_pos (by omega) (ev_pos (by omega) (ev_pos (by omega) ?_)))
    rw [rd_nat, w64' (x := 1073741824 - (l.take i).sum) rfl (by omega) (by omega)]
    by_cases h1 : l.getD i 0 < 0
    · exact ev_pos h1 (ev_eq (Ev.now _) (rightB_stop i (by omega) (.inl h1)).symm)
    · refine ev_neg h1 ?_
      by_cases h2 : l.getD i 0 > 1073741824 - (l.take i).sum
      · exact ev_pos h2 (ev_eq (Ev.now _) (rightB_stop i (by omega) (.inr h2)).symm)
      · refine ev_neg h2 ?_
        have hn := sofar_snoc hs (x := l.getD i 0) (by omega) (by omega)
        rw [← take_snocE l i (by omega)] at hn
        rw [wnext i (by omega), show wrap64 ((l.take i).sum + l.getD i 0) = (l.take (i + 1)).sum from w64' (by rw [take_snocE l i (by omega), List.sum_append]; simp) (by have := sofar_bd hn; omega) (by have := sofar_bd hn; omega)]
        exact right_from l hm d (i + 1) (by omega) hn
theorem right_ev (l : List Int) (hm : l.length ≤ 4611686018427387000) : Ev (fun k => hist_Right.f k l) (rightB l) := by
  unfold hist_Right.f
  exact right_from l hm l.length 0 (by omega) (by simpa using sofar_nil)
theorem total_from (l : List Int) (hm : l.length ≤ 4611686018427387000) (hr : rightB l = true) : ∀ (d i : Nat), i + d = l.length → Ev (fun k => hist_Total.l0 k (l.take i).sum l (l.length : Int) (i : Int)) l.sum
  | 0, i, hd => by
    refine Ev.step (fun _ => rfl) (ev_neg (by omega) ?_)
    rw [List.take_of_length_le (by omega)]
    exact Ev.now _
  | d + 1, i, hd => by
    have hb := sofar_bd (sofar_take hr (i + 1))
    refine Ev.step (fun _ => rfl) (ev_pos (by omega) (ev_pos (by omega) (ev_pos (by omega) ?_)))
    rw [rd_nat, wnext i (by omega), show wrap64 ((l.take i).sum + l.getD i 0) = (l.take (i + 1)).sum from w64' (by rw [take_snocE l i (by omega), List.sum_append]; simp) (by omega) (by omega)]
    exact total_from l hm hr d (i + 1) (by omega)
theorem total_ev (l : List Int) (hm : l.length ≤ 4611686018427387000) : Ev (fun k => hist_Total.f k l) (totZ l) := by
  unfold hist_Total.f totZ
  refine Ev.bind (right_ev l hm) ?_
  cases hr : rightB l with
  | true => exact ev_pos rfl (by rw [if_pos rfl]; exact total_from l hm hr l.length 0 (by omega))
  | false => exact ev_neg (by simp) (by rw [if_neg (by simp)]; exact Ev.now _)
theorem rright_from (l : List Int) (hl : l.length = 256) : ∀ (d i : Nat), i + d = 256 → (∀ x, x ∈ l.take i → 0 ≤ x ∧ x ≤ 1073741824) → Ev (fun k => puncheonref05_Right.l0 k l (l.take i).sum (i : Int)) (rightB l)
  | 0, i, hd, hs => by
    refine Ev.step (fun _ => rfl) (ev_neg (by omega) ?_)
    rw [List.take_of_length_le (by omega)] at hs ⊢
    refine ev_eq (Ev.now _) ?_
    rw [Bool.eq_iff_iff, decide_eq_true_iff, rightB_iff]
    exact ⟨fun h => ⟨hl, fun x hx => (hs x hx).1, h⟩, fun h => h.2.2⟩
  | d + 1, i, hd, hs => by
    refine Ev.step (fun _ => rfl) (ev_pos (by omega) (ev_pos (by omega) (ev_pos (by omega) ?_)))
    rw [rd_nat]
    by_cases h1 : l.getD i 0 < 0
    · refine ev_pos h1 (ev_eq (Ev.now _) ?_)
      exact (rightB_false _ (fun h => by have := h.2.1 _ (getD_memE (show i < l.length by omega)); omega)).symm
    · refine ev_neg h1 ?_
      by_cases h2 : l.getD i 0 > 1073741824
      · refine ev_pos h2 (ev_eq (Ev.now _) ?_)
        refine (rightB_false _ (fun h => ?_)).symm
        have h3 := sum_take_le h.2.1 (i + 1)
        rw [take_snocE l i (by omega), List.sum_append] at h3
        have h4 := sum_nonneg (l := l.take i) (fun x hx => h.2.1 x (List.mem_of_mem_take hx))
        simp at h3
        have h5 := h.2.2
        rw [List.getD_eq_getElem?_getD] at h2
        omega
      · refine ev_neg h2 ?_
        have hn : ∀ x, x ∈ l.take (i + 1) → 0 ≤ x ∧ x ≤ 1073741824 := by
          intro x hx
          rw [take_snocE l i (by omega)] at hx
          rcases List.mem_append.1 hx with hx | hx
          · exact hs x hx
          · rw [List.mem_singleton.1 hx]; omega
        have hbd : ∀ m : List Int, (∀ x, x ∈ m → 0 ≤ x ∧ x ≤ 1073741824) → 0 ≤ m.sum ∧ m.sum ≤ 1073741824 * m.length := by
          intro m
          induction m with
          | nil => intro _; simp
          | cons x m ih =>
            intro hm
            have h1 := hm x (by simp)
            have h2 := ih (fun y hy => hm y (by simp [hy]))
            rw [List.sum_cons, List.length_cons]
            omega
        have hb := hbd _ hn
        have hlen : (l.take (i + 1)).length ≤ i + 1 := List.length_take_le _ _
        rw [wnext i (by omega), show wrap64 ((l.take i).sum + l.getD i 0) = (l.take (i + 1)).sum from w64' (by rw [take_snocE l i (by omega), List.sum_append]; simp) (by omega) (by omega)]
        exact rright_from l hl d (i + 1) (by omega) hn
theorem rright_ev (l : List Int) (hm : l.length ≤ 4611686018427387000) : Ev (fun k => puncheonref05_Right.f k l) (rightB l) := by
  unfold puncheonref05_Right.f
  by_cases hl : l.length = 256
  · exact ev_pos (by omega) (rright_from l hl 256 0 (by omega) (by simp))
  · exact ev_neg (by omega) (ev_eq (Ev.now _) (rightB_false _ (fun h => hl h.1)).symm)
theorem rmany_from (l : List Int) (hm : l.length ≤ 4611686018427387000) : ∀ (d i : Nat), i + d = l.length → Ev (fun k => puncheonref05_Many.l0 k l (pos (l.take i)) true (i : Int)) (pos l)
  | 0, i, hd => by
    refine Ev.step (fun _ => by rw [puncheonref05_Many.l0]) (ev_neg (by omega) (Ev.step (fun _ => by rw [puncheonref05_Many.j1]) (ev_neg (by simp) ?_)))
    rw [List.take_of_length_le (by omega)]
    exact Ev.now _
  | d + 1, i, hd => by
    have hb := pos_bd (l.take i)
    have hl : (l.take i).length ≤ i := List.length_take_le _ _
    refine Ev.step (fun _ => by rw [puncheonref05_Many.l0]) (ev_pos (by omega) (Ev.step (fun _ => by rw [puncheonref05_Many.j1]) (ev_pos rfl (ev_pos (by omega) (ev_pos (by omega) ?_)))))
    rw [rd_nat]
    have hs := pos_snoc (l.take i) (l.getD i 0)
    rw [← take_snocE l i (by omega)] at hs
    by_cases h1 : l.getD i 0 > 0
    · refine ev_pos h1 ?_
      rw [wnext i (by omega), show wrap64 (pos (l.take i) + 1) = pos (l.take (i + 1)) from w64' (by rw [hs, if_pos h1]) (by rw [hs, if_pos h1]; omega) (by rw [hs, if_pos h1]; omega)]
      exact rmany_from l hm d (i + 1) (by omega)
    · refine ev_neg h1 ?_
      rw [wnext i (by omega), show pos (l.take i) = pos (l.take (i + 1)) by rw [hs, if_neg (by omega)]; omega]
      exact rmany_from l hm d (i + 1) (by omega)
theorem rmany_ev (l : List Int) (hm : l.length ≤ 4611686018427387000) : Ev (fun k => puncheonref05_Many.f k l) (manyZ l) := by
  unfold puncheonref05_Many.f manyZ
  refine Ev.bind (rright_ev l hm) ?_
  cases hr : rightB l with
  | true => rw [if_pos rfl]; exact rmany_from l hm l.length 0 (by omega)
  | false =>
    rw [if_neg (by simp)]
    refine Ev.step (fun _ => by rw [puncheonref05_Many.l0]) ?_
    have hj : Ev (fun k => puncheonref05_Many.j1 k l 0 false 0 false) 0 := Ev.step (fun _ => by rw [puncheonref05_Many.j1]) (ev_neg (by simp) (Ev.now _))
    by_cases h : (0 : Int) < (l.length : Int)
    · exact ev_pos h hj
    · exact ev_neg h hj
theorem rtotal_from (l : List Int) (hm : l.length ≤ 4611686018427387000) (hr : rightB l = true) : ∀ (d i : Nat), i + d = l.length → Ev (fun k => puncheonref05_Total.l0 k l (l.take i).sum true (i : Int)) l.sum
  | 0, i, hd => by
    refine Ev.step (fun _ => by rw [puncheonref05_Total.l0]) (ev_neg (by omega) ?_)
    rw [List.take_of_length_le (by omega)]
    exact Ev.now _
  | d + 1, i, hd => by
    have hb := sofar_bd (sofar_take hr (i + 1))
    refine Ev.step (fun _ => by rw [puncheonref05_Total.l0]) (ev_pos (by omega) (ev_pos rfl (ev_pos (by omega) ?_)))
    rw [rd_nat, wnext i (by omega), show wrap64 ((l.take i).sum + l.getD i 0) = (l.take (i + 1)).sum from w64' (by rw [take_snocE l i (by omega), List.sum_append]; simp) (by omega) (by omega)]
    exact rtotal_from l hm hr d (i + 1) (by omega)
theorem rtotal_ev (l : List Int) (hm : l.length ≤ 4611686018427387000) : Ev (fun k => puncheonref05_Total.f k l) (totZ l) := by
  unfold puncheonref05_Total.f totZ
  refine Ev.bind (rright_ev l hm) ?_
  cases hr : rightB l with
  | true => rw [if_pos rfl]; exact rtotal_from l hm hr l.length 0 (by omega)
  | false =>
    rw [if_neg (by simp)]
    refine Ev.step (fun _ => by rw [puncheonref05_Total.l0]) ?_
    by_cases h : (0 : Int) < (l.length : Int)
    · exact ev_pos h (ev_neg (by simp) (Ev.now _))
    · exact ev_neg h (Ev.now _)
end Go.Proofs.Ytonicgihpjolmaa
