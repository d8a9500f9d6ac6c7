/- What the printed functions of the layer hist, and of its reference, come to. -/
import Derived.Test.YtlcpcnachdbboaaEv
import Derived.Test.YtlcpcnachdbboaaHs
import Derived.Test.YtlcpcnachdbboaaPPrx2
import Derived.Test.YtlcpcnachdbboaaPPrx2
import Derived.Test.YtlcpcnachdbboaaPPrx2
import Derived.Test.YtlcpcnachdbboaaPPrx7
namespace Go.Proofs.Ytlcpcnachdbboaa
open Go.RowKit Go.Proofs.YtlcpcnachdbboaaW.PrintWords PPr
set_option linter.unusedSimpArgs false
set_option linter.unusedVariables false
theorem ints_from (a b : List Int) (hl : a.length = b.length) (hm : a.length ≤ 4611686018427387000) : ∀ (d i : Nat), i + d = a.length → a.take i = b.take i → Ev (fun k => puncheonref01_Ints.l0 k a b (i : Int)) (decide (a = b))
  | 0, i, hd, hs => by
    refine Ev.step (fun _ => rfl) (ev_neg (by omega) ?_)
    rw [List.take_of_length_le (by omega), List.take_of_length_le (by omega)] at hs
    exact ev_eq (Ev.now _) (by simp [hs])
  | d + 1, i, hd, hs => by
    refine Ev.step (fun _ => rfl) (ev_pos (by omega) (ev_pos (by omega) (ev_pos (by omega) ?_)))
    rw [rd_nat, rd_nat]
    by_cases he : a.getD i 0 = b.getD i 0
    · refine ev_pos he ?_
      rw [wnext i (by omega)]
      exact ints_from a b hl hm d (i + 1) (by omega) (by rw [take_snocE _ _ (by omega), take_snocE _ _ (by omega), hs, he])
    · refine ev_neg he (ev_eq (Ev.now _) ?_)
      have : a ≠ b := fun h => he (by rw [h])
      simp [this]
theorem ints_ev (a b : List Int) (hm : a.length ≤ 4611686018427387000) : Ev (fun k => puncheonref01_Ints.f k a b) (decide (a = b)) := by
  unfold puncheonref01_Ints.f
  by_cases hl : a.length = b.length
  · exact ev_pos (by omega) (ints_from a b hl hm a.length 0 (by omega) rfl)
  · refine ev_neg (by omega) (ev_eq (Ev.now _) ?_)
    have : a ≠ b := fun h => hl (by rw [h])
    simp [this]
theorem right_from (l : List Int) (hm : l.length ≤ 4611686018427387000) : ∀ (d i : Nat), i + d = l.length → sofar (l.take i) → Ev (fun k => hist_Right.l0 k l (l.take i).sum l (l.length : Int) (i : Int)) (rightB l)
  | 0, i, hd, hs => by
    refine Ev.step (fun _ => rfl) (ev_neg (by omega) ?_)
    rw [List.take_of_length_le (by omega)] at hs
    refine ev_eq (Ev.now _) ?_
    rw [rightB_sofar hs, Bool.eq_iff_iff, beq_iff_eq, decide_eq_true_iff]
    omega
  | d + 1, i, hd, hs => by
    have hb := sofar_bd hs
    refine Ev.step (fun _ => rfl) (ev_pos (by omega) (ev_pos (by omega) (ev_pos (by omega) ?_)))
    rw [rd_nat, w64' (x := 1073741824 - (l.take i).sum) rfl (by omega) (by omega)]
    by_cases h1 : l.getD i 0 < 0
    · exact ev_pos h1 (ev_eq (Ev.now _) (rightB_stop i (by omega) (.inl h1)).symm)
    · refine ev_neg h1 ?_
      by_cases h2 : l.getD i 0 > 1073741824 - (l.take i).sum
      · exact ev_pos h2 (ev_eq (Ev.now _) (rightB_stop i (by omega) (.inr h2)).symm)
      · refine ev_neg h2 ?_
        have hn := sofar_snoc hs (x := l.getD i 0) (by omega) (by omega)
        rw [← take_snocE l i (by omega)] at hn
        rw [wnext i (by omega), show wrap64 ((l.take i).sum + l.getD i 0) = (l.take (i + 1)).sum from w64' (by rw [take_snocE l i (by omega), List.sum_append]; simp) (by have := sofar_bd hn; omega) (by have := sofar_bd hn; omega)]
        exact right_from l hm d (i + 1) (by omega) hn
theorem right_ev (l : List Int) (hm : l.length ≤ 4611686018427387000) : Ev (fun k => hist_Right.f k l) (rightB l) := by
  unfold hist_Right.f
  exact right_from l hm l.length 0 (by omega) (by simpa using sofar_nil)
theorem many_from (l : List Int) (hm : l.length ≤ 4611686018427387000) (hr : rightB l = true) : ∀ (d i : Nat), i + d = l.length → Ev (fun k => hist_Many.l0 k l (pos (l.take i)) l (l.length : Int) (i : Int)) (pos l)
  | 0, i, hd => by
    refine Ev.step (fun _ => rfl) (ev_neg (by omega) ?_)
    rw [List.take_of_length_le (by omega)]
    exact Ev.now _
  | d + 1, i, hd => by
    have hb := pos_bd (l.take i)
    have hl : (l.take i).length ≤ i := List.length_take_le _ _
    refine Ev.step (fun _ => rfl) (ev_pos (by omega) (ev_pos (by omega) (ev_pos (by omega) ?_)))
    rw [rd_nat]
    have hs := pos_snoc (l.take i) (l.getD i 0)
    rw [← take_snocE l i (by omega)] at hs
    by_cases h1 : l.getD i 0 > 0
    · refine ev_pos h1 (Ev.bind (right_ev l hm) (ev_pos hr ?_))
      rw [wnext i (by omega), show wrap64 (pos (l.take i) + 1) = pos (l.take (i + 1)) from w64' (by rw [hs, if_pos h1]) (by rw [hs, if_pos h1]; omega) (by rw [hs, if_pos h1]; omega)]
      exact many_from l hm hr d (i + 1) (by omega)
    · refine ev_neg h1 ?_
      rw [wnext i (by omega), show pos (l.take i) = pos (l.take (i + 1)) by rw [hs, if_neg (by omega)]; omega]
      exact many_from l hm hr d (i + 1) (by omega)
theorem many_none (l : List Int) (hm : l.length ≤ 4611686018427387000) (hr : rightB l = false) : ∀ (d i : Nat), i + d = l.length → Ev (fun k => hist_Many.l0 k l 0 l (l.length : Int) (i : Int)) 0
  | 0, i, hd => Ev.step (fun _ => rfl) (ev_neg (by omega) (Ev.now _))
  | d + 1, i, hd => by
    refine Ev.step (fun _ => rfl) (ev_pos (by omega) (ev_pos (by omega) (ev_pos (by omega) ?_)))
    rw [wnext i (by omega)]
    by_cases h1 : rd l (i : Int) > 0
    · exact ev_pos h1 (Ev.bind (right_ev l hm) (ev_neg (by rw [hr]; simp) (many_none l hm hr d (i + 1) (by omega))))
    · exact ev_neg h1 (many_none l hm hr d (i + 1) (by omega))
theorem many_ev (l : List Int) (hm : l.length ≤ 4611686018427387000) : Ev (fun k => hist_Many.f k l) (manyZ l) := by
  unfold hist_Many.f manyZ
  cases hr : rightB l with
  | true => rw [if_pos rfl]; exact many_from l hm hr l.length 0 (by omega)
  | false => rw [if_neg (by simp)]; exact many_none l hm hr l.length 0 (by omega)
theorem total_from (l : List Int) (hm : l.length ≤ 4611686018427387000) (hr : rightB l = true) : ∀ (d i : Nat), i + d = l.length → Ev (fun k => hist_Total.l0 k (l.take i).sum l (l.length : Int) (i : Int)) l.sum
  | 0, i, hd => by
    refine Ev.step (fun _ => rfl) (ev_neg (by omega) ?_)
    rw [List.take_of_length_le (by omega)]
    exact Ev.now _
  | d + 1, i, hd => by
    have hb := sofar_bd (sofar_take hr (i + 1))
    refine Ev.step (fun _ => rfl) (ev_pos (by omega) (ev_pos (by omega) (ev_pos (by omega) ?_)))
    rw [rd_nat, wnext i (by omega), show wrap64 ((l.take i).sum + l.getD i 0) = (l.take (i + 1)).sum from w64' (by rw [take_snocE l i (by omega), List.sum_append]; simp) (by omega) (by omega)]
    exact total_from l hm hr d (i + 1) (by omega)
theorem total_ev (l : List Int) (hm : l.length ≤ 4611686018427387000) : Ev (fun k => hist_Total.f k l) (totZ l) := by
  unfold hist_Total.f totZ
  refine Ev.bind (right_ev l hm) ?_
  cases hr : rightB l with
  | true => exact ev_pos rfl (by rw [if_pos rfl]; exact total_from l hm hr l.length 0 (by omega))
  | false => exact ev_neg (by simp) (by rw [if_neg (by simp)]; exact Ev.now _)
end Go.Proofs.Ytlcpcnachdbboaa
