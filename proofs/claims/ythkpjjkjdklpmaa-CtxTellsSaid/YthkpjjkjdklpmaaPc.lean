/- What the printed functions of the layer ctx, and of its reference, come to. -/
import Derived.Test.YthkpjjkjdklpmaaPh
import Derived.Test.YthkpjjkjdklpmaaCx
import Derived.Test.YthkpjjkjdklpmaaWMore
import Derived.Test.YthkpjjkjdklpmaaPPrx1
import Derived.Test.YthkpjjkjdklpmaaPPrx6
import Derived.Test.YthkpjjkjdklpmaaPPrx4
import Derived.Test.YthkpjjkjdklpmaaPPrx5
import Derived.Test.YthkpjjkjdklpmaaPPrx6
import Derived.Test.YthkpjjkjdklpmaaPPrx6
import Derived.Test.YthkpjjkjdklpmaaPPrx7
import Derived.Test.YthkpjjkjdklpmaaPPrx7
namespace Go.Proofs.Ythkpjjkjdklpmaa
open Go.RowKit Go.Proofs.YthkpjjkjdklpmaaW.PrintWords Go.Proofs.YthkpjjkjdklpmaaW.PrintMore PPr
set_option linter.unusedSimpArgs false
set_option linter.unusedVariables false
def atZ (l : List Int) (a : Int) : Int := if 0 ≤ a ∧ a < (l.length : Int) then ctxAt l a.toNat else -1
def forZ (l : List Int) (c : Int) : List Int := cnt (pickTo l c l.length)
def presZ (l : List Int) : List Int := presTo (metTo l l.length) 256
theorem forZ_len (l : List Int) (c : Int) : (forZ l c).length = 256 := cnt_len _
theorem at_ev (l : List Int) (hok : BytesOk l) (hm : l.length ≤ 1099511627776) (a : Int) (h0 : -9223372036854775808 ≤ a) (h1 : a ≤ 9223372036854775807) : Ev (fun k => ctx_At.f k l a) (atZ l a) := by
  unfold ctx_At.f atZ
  by_cases hn : a < 0
  · rw [if_neg (show ¬ (0 ≤ a ∧ a < (l.length : Int)) by omega)]
    exact ev_pos hn (Ev.step (fun _ => by rw [ctx_At.j0]) (ev_pos rfl (Ev.now _)))
  · refine ev_neg hn (Ev.step (fun _ => by rw [ctx_At.j0]) ?_)
    by_cases h2 : a ≥ (l.length : Int)
    · rw [if_neg (show ¬ (0 ≤ a ∧ a < (l.length : Int)) by omega)]
      exact ev_pos (decide_eq_true h2) (Ev.now _)
    · rw [if_pos (show 0 ≤ a ∧ a < (l.length : Int) by omega)]
      refine ev_neg (by rw [decide_eq_false h2]; simp) ?_
      unfold ctxAt
      by_cases h3 : a = 0
      · rw [if_pos (show a.toNat = 0 by omega)]; exact ev_pos h3 (Ev.now _)
      · rw [if_neg (show ¬ a.toNat = 0 by omega)]
        refine ev_neg h3 ?_
        rw [w64' (x := a - 1) rfl (by omega) (by omega)]
        refine ev_pos (by omega) (ev_pos (by omega) (ev_eq (Ev.now _) ?_))
        have hb := hok.at (a.toNat - 1) (by omega)
        rw [show rd l (a - 1) = l.getD (a.toNat - 1) 0 by unfold rd; rw [show (a - 1).toNat = a.toNat - 1 by omega]]
        exact w64' rfl (by omega) (by omega)
theorem rat_eq (l : List Int) (hok : BytesOk l) (hm : l.length ≤ 1099511627776) (a : Int) : puncheonref06_At.f l a = some (atZ l a) := by
  unfold puncheonref06_At.f atZ
  by_cases hn : a < 0
  · rw [if_pos hn, if_neg (by omega)]
  · rw [if_neg hn]
    by_cases h2 : a ≥ (l.length : Int)
    · rw [if_pos h2, if_neg (by omega)]
    · rw [if_neg h2, if_pos (show 0 ≤ a ∧ a < (l.length : Int) by omega)]
      simp only [Option.bind_some]
      rw [if_pos (by simp; omega)]
      rw [if_pos (by omega), if_pos (by simp; omega)]
      congr 1
      unfold rd ctxAt
      by_cases h3 : a.toNat = 0
      · rw [if_pos h3, h3]; exact w64' rfl (by decide) (by decide)
      · rw [if_neg h3]
        obtain ⟨j, hj⟩ : ∃ j, a.toNat = j + 1 := ⟨a.toNat - 1, by omega⟩
        have hb := hok.at j (by omega)
        rw [hj]
        simp only [List.singleton_append, List.getD_cons_succ, Nat.add_sub_cancel]
        exact w64' rfl (by omega) (by omega)
theorem rat_nat (l : List Int) (hok : BytesOk l) (hm : l.length ≤ 1099511627776) (i : Nat) (hi : i < l.length) : puncheonref06_At.f l (i : Int) = some (ctxAt l i) := by
  rw [rat_eq l hok hm, atZ, if_pos (by omega)]; rfl
theorem for_eq (l : List Int) (hok : BytesOk l) (hm : l.length ≤ 1099511627776) (c : Int) : ctx_For.f l c = some (forZ l c) := by
  unfold ctx_For.f; rw [if_pos ((okBytes_iff l).2 ⟨hm, hok⟩)]; rfl
theorem of_eq (l : List Int) (hok : BytesOk l) (hm : l.length ≤ 1099511627776) : hist_Of.f l = some (cnt l) := by
  unfold hist_Of.f; rw [if_pos ((okBytes_iff l).2 ⟨hm, hok⟩)]
theorem pres_eq (l : List Int) (hok : BytesOk l) (hm : l.length ≤ 1099511627776) : ctx_Present.f l = some (presZ l) := by
  unfold ctx_Present.f; rw [if_pos ((okBytes_iff l).2 ⟨hm, hok⟩)]; rfl
theorem rfor_from (l : List Int) (hok : BytesOk l) (hm : l.length ≤ 1099511627776) (c : Int) : ∀ (d i : Nat), i + d = l.length → Ev (fun k => puncheonref06_For.l0 k l c (cnt (pickTo l c i)) (i : Int)) (forZ l c)
  | 0, i, hd => by
    refine Ev.step (fun _ => by rw [puncheonref06_For.l0]) (ev_neg (by omega) ?_)
    obtain rfl : i = l.length := by omega
    exact Ev.now _
  | d + 1, i, hd => by
    have hb := hok.at i (by omega)
    refine Ev.step (fun _ => by rw [puncheonref06_For.l0]) (ev_pos (by omega) (ev_obind (rat_nat l hok hm i (by omega)) ?_))
    rw [wnext i (by omega), rd_nat]
    by_cases h : ctxAt l i = c
    · refine ev_pos h (ev_pos (by omega) (ev_pos (by omega) (ev_pos (by rw [cnt_len]; omega) ?_)))
      have hs := cnt_snoc (pickTo l c i) (l.getD i 0) (by omega) (by omega)
      rw [← pickTo_hit l c i h] at hs
      have hcount : 0 ≤ (cnt (pickTo l c i)).getD (l.getD i 0).toNat 0 ∧ (cnt (pickTo l c i)).getD (l.getD i 0).toNat 0 ≤ i := by
        rw [cnt_get _ _ (by omega)]
        have h1 := List.count_le_length (a := (((l.getD i 0).toNat : Nat) : Int)) (l := pickTo l c i)
        have h2 := pickTo_len l c i
        omega
      rw [show rd (cnt (pickTo l c i)) (l.getD i 0) = (cnt (pickTo l c i)).getD (l.getD i 0).toNat 0 from rfl, w64' (x := (cnt (pickTo l c i)).getD (l.getD i 0).toNat 0 + 1) rfl (by omega) (by omega), ← hs]
      exact rfor_from l hok hm c d (i + 1) (by omega)
    · refine ev_neg h ?_
      rw [← pickTo_miss l c i h]
      exact rfor_from l hok hm c d (i + 1) (by omega)
theorem rfor_ev (l : List Int) (hok : BytesOk l) (hm : l.length ≤ 1099511627776) (c : Int) : Ev (fun k => puncheonref06_For.f k l c) (forZ l c) := by
  unfold puncheonref06_For.f
  refine ev_pos (by omega) ?_
  have := rfor_from l hok hm c l.length 0 (by omega)
  rw [show cnt (pickTo l c 0) = List.replicate 256 0 from cnt_nil] at this
  exact this
/-- how many of the first i bytes have the context c -/
def hits (l : List Int) (c : Int) (i : Nat) : Nat := ((List.range i).filter fun j => decide (ctxAt l j = c)).length
theorem hits_succ (l : List Int) (c : Int) (i : Nat) : hits l c (i + 1) = hits l c i + if ctxAt l i = c then 1 else 0 := by
  unfold hits
  rw [List.range_succ, List.filter_append, List.length_append]
  by_cases h : ctxAt l i = c <;> simp [List.filter_cons, h]
theorem hits_le (l : List Int) (c : Int) (i : Nat) : hits l c i ≤ i := by
  unfold hits
  have := List.length_filter_le (fun j => decide (ctxAt l j = c)) (List.range i)
  rwa [List.length_range] at this
theorem hits_met {l : List Int} (hok : BytesOk l) (c : Nat) (hc : c < 256) : (metTo l l.length).getD c false = decide (0 < hits l (c : Int) l.length) := by
  rw [metTo_get hok l.length (Nat.le_refl _) c hc, Bool.eq_iff_iff, List.any_eq_true, decide_eq_true_iff]
  unfold hits
  rw [List.length_pos_iff_exists_mem]
  simp [List.mem_filter]
theorem rpres_in (l : List Int) (hok : BytesOk l) (hm : l.length ≤ 1099511627776) (c : Nat) (hc : c < 256) (r : List Int) (hr : Ev (fun k => puncheonref06_Present.l0 k l (presTo (metTo l l.length) (c + 1)) ((c + 1 : Nat) : Int)) r) :
    ∀ (d i : Nat), i + d = l.length → Ev (fun k => puncheonref06_Present.l1 k l (presTo (metTo l l.length) c) (c : Int) (hits l (c : Int) i : Int) (i : Int)) r
  | 0, i, hd => by
    refine Ev.step (fun _ => by rw [puncheonref06_Present.l1]) (ev_neg (by omega) ?_)
    obtain rfl : i = l.length := by omega
    have hmet := hits_met hok c hc
    have hlen := presTo_len (metTo l l.length) c
    rw [wnext c (by omega)]
    by_cases h : 0 < hits l (c : Int) l.length
    · refine ev_pos (by omega) (ev_pos (by omega) ?_)
      rw [← presTo_hit _ c (by rw [hmet]; simpa using h)]
      exact hr
    · refine ev_neg (by omega) ?_
      rw [← presTo_miss _ c (by rw [hmet]; simpa using h)]
      exact hr
  | d + 1, i, hd => by
    have hle := hits_le l (c : Int) i
    have hs := hits_succ l (c : Int) i
    refine Ev.step (fun _ => by rw [puncheonref06_Present.l1]) (ev_pos (by omega) (ev_obind (rat_nat l hok hm i (by omega)) ?_))
    rw [wnext i (by omega), wnext (hits l (c : Int) i) (by omega)]
    by_cases h : ctxAt l i = (c : Int)
    · refine ev_pos h ?_
      rw [show hits l (c : Int) i + 1 = hits l (c : Int) (i + 1) by rw [hs, if_pos h]]
      exact rpres_in l hok hm c hc r hr d (i + 1) (by omega)
    · refine ev_neg h ?_
      rw [show hits l (c : Int) i = hits l (c : Int) (i + 1) by rw [hs, if_neg h]; rfl]
      exact rpres_in l hok hm c hc r hr d (i + 1) (by omega)
theorem rpres_from (l : List Int) (hok : BytesOk l) (hm : l.length ≤ 1099511627776) : ∀ (d c : Nat), c + d = 256 → Ev (fun k => puncheonref06_Present.l0 k l (presTo (metTo l l.length) c) (c : Int)) (presZ l)
  | 0, c, hd => by
    refine Ev.step (fun _ => by rw [puncheonref06_Present.l0]) (ev_neg (by omega) ?_)
    obtain rfl : c = 256 := by omega
    exact Ev.now _
  | d + 1, c, hd => by
    refine Ev.step (fun _ => by rw [puncheonref06_Present.l0]) (ev_pos (by omega) ?_)
    exact rpres_in l hok hm c (by omega) _ (rpres_from l hok hm d (c + 1) (by omega)) l.length 0 (by omega)
theorem rpres_ev (l : List Int) (hok : BytesOk l) (hm : l.length ≤ 1099511627776) : Ev (fun k => puncheonref06_Present.f k l) (presZ l) := by
  unfold puncheonref06_Present.f
  exact rpres_from l hok hm 256 0 (by omega)
/-- the widest of the contexts below k -/
def widTo (l : List Int) : Nat → Int
  | 0 => 0
  | k + 1 => mx (widTo l k) (manyZ (forZ l (k : Int)))
theorem mx_le_left (a b : Int) : a ≤ mx a b := by unfold mx; split <;> omega
theorem mx_le_right (a b : Int) : b ≤ mx a b := by unfold mx; split <;> omega
theorem mx_le (a b c : Int) (h : a ≤ c) (k : b ≤ c) : mx a b ≤ c := by unfold mx; split <;> omega
theorem widTo_bd (l : List Int) : ∀ k, 0 ≤ widTo l k ∧ widTo l k ≤ 256
  | 0 => by simp [widTo]
  | k + 1 => by
    have h1 := widTo_bd l k
    have h2 := manyZ_bd (forZ l (k : Int))
    have h3 := mx_le_left (widTo l k) (manyZ (forZ l (k : Int)))
    have h4 := mx_le _ _ 256 h1.2 h2.2
    rw [widTo]; omega
theorem pick_none (l : List Int) (c : Int) : ∀ i, (∀ j, j < i → ¬ ctxAt l j = c) → pickTo l c i = []
  | 0, _ => rfl
  | i + 1, h => by rw [pickTo_miss l c i (h i (by omega)), pick_none l c i (fun j hj => h j (by omega))]
theorem many_nil : manyZ (cnt []) = 0 := by decide +kernel
theorem miss_many {l : List Int} (hok : BytesOk l) (c : Nat) (hc : c < 256) (h : (metTo l l.length).getD c false = false) : manyZ (forZ l (c : Int)) = 0 := by
  rw [metTo_get hok l.length (Nat.le_refl _) c hc, List.any_eq_false] at h
  unfold forZ
  rw [pick_none l c l.length (fun j hj => by simpa using h j (List.mem_range.2 hj))]
  exact many_nil
theorem wid_fold {l : List Int} (hok : BytesOk l) : ∀ k, k ≤ 256 → (presTo (metTo l l.length) k).foldl (fun a c => mx a (manyZ (forZ l c))) 0 = widTo l k
  | 0, _ => rfl
  | k + 1, hk => by
    cases hb : (metTo l l.length).getD k false with
    | true => rw [presTo_hit _ k hb, List.foldl_append, wid_fold hok k (by omega), List.foldl_cons, List.foldl_nil, widTo]
    | false =>
      rw [presTo_miss _ k hb, wid_fold hok k (by omega), widTo, miss_many hok k (by omega) hb]
      have := widTo_bd l k
      unfold mx; split <;> omega
theorem wid_from (l : List Int) (hok : BytesOk l) (hm : l.length ≤ 1099511627776) (p : List Int) (hp : p.length ≤ 256) : ∀ (d i : Nat), i + d = p.length → Ev (fun k => ctx_Widest.l0 k l ((p.take i).foldl (fun a c => mx a (manyZ (forZ l c))) 0) p (p.length : Int) (i : Int)) (p.foldl (fun a c => mx a (manyZ (forZ l c))) 0)
  | 0, i, hd => by
    refine Ev.step (fun _ => by rw [ctx_Widest.l0]) (ev_neg (by omega) ?_)
    rw [List.take_of_length_le (by omega)]
    exact Ev.now _
  | d + 1, i, hd => by
    refine Ev.step (fun _ => by rw [ctx_Widest.l0]) (ev_pos (by omega) (ev_pos (by omega) (ev_pos (by omega) ?_)))
    rw [rd_nat]
    refine ev_obind (for_eq l hok hm (p.getD i 0)) (Ev.bind (many_ev (forZ l (p.getD i 0)) (by rw [forZ_len]; omega)) ?_)
    have hs : (p.take (i + 1)).foldl (fun a c => mx a (manyZ (forZ l c))) 0 = mx ((p.take i).foldl (fun a c => mx a (manyZ (forZ l c))) 0) (manyZ (forZ l (p.getD i 0))) := by
      rw [take_snocE p i (by omega), List.foldl_append, List.foldl_cons, List.foldl_nil]
    rw [wnext i (by omega), ← hs]
    exact wid_from l hok hm p hp d (i + 1) (by omega)
theorem wid_ev (l : List Int) (hok : BytesOk l) (hm : l.length ≤ 1099511627776) : Ev (fun k => ctx_Widest.f k l) (widTo l 256) := by
  unfold ctx_Widest.f
  refine ev_obind (pres_eq l hok hm) ?_
  have hp := presTo_len (metTo l l.length) 256
  have h := wid_from l hok hm (presZ l) hp _ 0 (Nat.zero_add _)
  rw [show (presZ l).foldl (fun a c => mx a (manyZ (forZ l c))) 0 = widTo l 256 from wid_fold hok 256 (by omega)] at h
  exact h
theorem rwid_from (l : List Int) (hok : BytesOk l) (hm : l.length ≤ 1099511627776) : ∀ (d c : Nat), c + d = 256 → Ev (fun k => puncheonref06_Widest.l0 k l (widTo l c) (c : Int)) (widTo l 256)
  | 0, c, hd => by
    refine Ev.step (fun _ => by rw [puncheonref06_Widest.l0]) (ev_neg (by omega) ?_)
    obtain rfl : c = 256 := by omega
    exact Ev.now _
  | d + 1, c, hd => by
    refine Ev.step (fun _ => by rw [puncheonref06_Widest.l0]) (ev_pos (by omega) (Ev.bind (rfor_ev l hok hm (c : Int)) (Ev.bind (rmany_ev (forZ l (c : Int)) (by rw [forZ_len]; omega)) ?_)))
    rw [wnext c (by omega), ← widTo]
    exact rwid_from l hok hm d (c + 1) (by omega)
theorem rwid_ev (l : List Int) (hok : BytesOk l) (hm : l.length ≤ 1099511627776) : Ev (fun k => puncheonref06_Widest.f k l) (widTo l 256) := rwid_from l hok hm 256 0 (by omega)
end Go.Proofs.Ythkpjjkjdklpmaa
