/- The pure statement of CtxWhole: each byte is counted in one context. -/
import Derived.Test.YthkpjjkjdklpmaaPcl
import Derived.Test.YthkpjjkjdklpmaaPPrx11
namespace Go.Proofs.Ythkpjjkjdklpmaa.Pure
open Go.RowKit Go.Proofs.Ythkpjjkjdklpmaa.PPr Go.Proofs.YthkpjjkjdklpmaaW.PrintWords Go.Proofs.YthkpjjkjdklpmaaW.PrintLast Go.Proofs.YthkpjjkjdklpmaaW.PrintMore
/-- of the first i bytes, how many are v and have a context below c -/
def below (l : List Int) (v : Int) (c : Nat) : Nat → Int
  | 0 => 0
  | i + 1 => below l v c i + (if l.getD i 0 = v ∧ ctxAt l i < (c : Int) then 1 else 0)
theorem below_0 {l : List Int} (hok : BytesOk l) (v : Int) : ∀ i, i ≤ l.length → below l v 0 i = 0
  | 0, _ => rfl
  | i + 1, hi => by
    have := ctxAt_ok hok i (by omega)
    rw [below, below_0 hok v i (by omega), if_neg (by omega)]; rfl
theorem below_all {l : List Int} (hok : BytesOk l) (v : Int) : ∀ i, i ≤ l.length → below l v 256 i = (l.take i).count v
  | 0, _ => by simp [below]
  | i + 1, hi => by
    have := ctxAt_ok hok i (by omega)
    rw [below, below_all hok v i (by omega), take_snocE l i (by omega), List.count_append, List.count_singleton]
    by_cases e : l.getD i 0 = v
    · rw [if_pos ⟨e, by omega⟩, e]; simp
    · rw [if_neg (fun h => e h.1)]
      have : (l.getD i 0 == v) = false := by simpa using e
      rw [this]; simp
theorem below_succ {l : List Int} (v : Int) (c : Nat) : ∀ i, below l v (c + 1) i = below l v c i + (pickTo l (c : Int) i).count v
  | 0 => by simp [below, pickTo]
  | i + 1 => by
    rw [below, below, below_succ v c i, pickTo, List.count_append, Int.natCast_add]
    by_cases e : ctxAt l i = (c : Int)
    · rw [if_pos e, List.count_singleton]
      by_cases e2 : l.getD i 0 = v
      · rw [if_pos ⟨e2, by omega⟩, if_neg (by omega), e2]; simp; omega
      · have : (l.getD i 0 == v) = false := by simpa using e2
        rw [if_neg (fun h => e2 h.1), if_neg (fun h => e2 h.1), this]; simp
    · rw [if_neg e, List.count_nil]
      by_cases e2 : l.getD i 0 = v ∧ ctxAt l i < (c : Int)
      · rw [if_pos e2, if_pos ⟨e2.1, by omega⟩]; omega
      · rw [if_neg e2, if_neg (fun h => e2 ⟨h.1, by omega⟩)]; omega
def sumTo (l : List Int) (p : List Int) : List Int := p.foldl (fun s c => addL s (forZ l c)) (List.replicate 256 0)
theorem sumTo_snoc (l p : List Int) (c : Int) : sumTo l (p ++ [c]) = addL (sumTo l p) (forZ l c) := by
  unfold sumTo; rw [List.foldl_append, List.foldl_cons, List.foldl_nil]
theorem sumTo_len (l : List Int) (p : List Int) : (sumTo l p).length = 256 := by
  rcases List.eq_nil_or_concat p with h | ⟨q, c, h⟩
  · subst h; exact List.length_replicate
  · subst h; rw [List.concat_eq_append, sumTo_snoc, addL_len]
theorem sumTo_pres {l : List Int} (hok : BytesOk l) : ∀ k, k ≤ 256 → ∀ v, v < 256 → (sumTo l (presTo (metTo l l.length) k)).getD v 0 = below l (v : Int) k l.length
  | 0, _, v, hv => by
    rw [below_0 hok _ _ (Nat.le_refl _), show presTo (metTo l l.length) 0 = [] from rfl, sumTo, List.foldl_nil, List.getD_eq_getElem?_getD, List.getElem?_replicate, if_pos hv]; rfl
  | k + 1, hk, v, hv => by
    have ih := sumTo_pres hok k (by omega) v hv
    rw [below_succ]
    cases hb : (metTo l l.length).getD k false with
    | true => rw [presTo_hit _ k hb, sumTo_snoc, addL_get _ _ _ hv, ih, forZ, cnt_get _ _ hv]
    | false =>
      rw [presTo_miss _ k hb, ih]
      rw [metTo_get hok l.length (Nat.le_refl _) k (by omega), List.any_eq_false] at hb
      rw [pick_none l (k : Int) l.length (fun j hj => by simpa using hb j (List.mem_range.2 hj))]
      simp
theorem sumTo_all {l : List Int} (hok : BytesOk l) : sumTo l (presZ l) = cnt l := by
  apply ext_getDE
  · rw [sumTo_len, cnt_len]
  · intro v hv
    rw [sumTo_len] at hv
    rw [presZ, sumTo_pres hok 256 (by omega) v hv, below_all hok _ _ (Nat.le_refl _), List.take_length, cnt_get _ _ hv]
theorem sumTo_right {l : List Int} (hok : BytesOk l) (hm : l.length ≤ 100) : ∀ (p : List Int), p.length ≤ 256 → rightB (sumTo l p) = true ∧ (sumTo l p).sum ≤ 100 * p.length := by
  intro p
  generalize hn : p.length = n
  induction n generalizing p with
  | zero =>
    intro _
    obtain rfl : p = [] := List.eq_nil_of_length_eq_zero hn
    show rightB (List.replicate 256 0) = true ∧ (List.replicate 256 (0 : Int)).sum ≤ 100 * ((0 : Nat) : Int)
    exact ⟨by decide +kernel, by decide +kernel⟩
  | succ n ih =>
    intro hp
    rcases List.eq_nil_or_concat p with h | ⟨q, c, h⟩
    · subst h; simp at hn
    · rw [List.concat_eq_append] at h
      subst h
      rw [List.length_append, List.length_singleton] at hn
      obtain ⟨h1, h2⟩ := ih q (by omega) (by omega)
      have h3 := forZ_right hok (by omega) c
      have h4 := forZ_sum hok c
      have h5 := (forZ_facts hok c).2
      rw [sumTo_snoc]
      have h6 := sum_addL (sumTo l q) (forZ l c) (sumTo_len _ _) (forZ_len _ _)
      refine ⟨?_, by omega⟩
      rw [addL_right _ _ h1 h3, decide_eq_true_eq]
      omega
/-- the contexts that are there rise, and have some byte -/
theorem pres_get (m : List Bool) : ∀ k i, i < (presTo m k).length → ∃ c : Nat, c < k ∧ (presTo m k).getD i 0 = c ∧ m.getD c false = true ∧ (∀ j, j < i → (presTo m k).getD j 0 < c)
  | 0, i, h => by simp [presTo] at h
  | k + 1, i, h => by
    cases hb : m.getD k false with
    | false =>
      rw [presTo_miss m k hb] at h ⊢
      obtain ⟨c, h1, h2, h3, h4⟩ := pres_get m k i h
      exact ⟨c, by omega, h2, h3, h4⟩
    | true =>
      rw [presTo_hit m k hb] at h ⊢
      rw [List.length_append, List.length_singleton] at h
      have hl : ∀ j, j < (presTo m k).length → (presTo m k ++ [(k : Int)]).getD j 0 = (presTo m k).getD j 0 := by
        intro j hj
        rw [List.getD_eq_getElem?_getD, List.getD_eq_getElem?_getD, List.getElem?_append_left hj]
      by_cases hi : i < (presTo m k).length
      · obtain ⟨c, h1, h2, h3, h4⟩ := pres_get m k i hi
        exact ⟨c, by omega, (hl i hi).trans h2, h3, fun j hj => by rw [hl j (by omega)]; exact h4 j hj⟩
      · obtain rfl : i = (presTo m k).length := by omega
        refine ⟨k, by omega, ?_, hb, fun j hj => ?_⟩
        · rw [List.getD_eq_getElem?_getD, List.getElem?_append_right (Nat.le_refl _)]; simp
        · rw [hl j hj]
          obtain ⟨c, h1, h2, _⟩ := pres_get m k j hj
          omega
theorem some_hit {l : List Int} (hok : BytesOk l) (c : Nat) (hc : c < 256) (h : (metTo l l.length).getD c false = true) : 0 < (pickTo l (c : Int) l.length).length := by
  rw [metTo_get hok l.length (Nat.le_refl _) c hc, List.any_eq_true] at h
  obtain ⟨j, hj, he⟩ := h
  have hj := List.mem_range.1 hj
  have he : ctxAt l j = (c : Int) := by simpa using he
  have hm : ∀ n, j < n → 0 < (pickTo l (c : Int) n).length := by
    intro n
    induction n with
    | zero => intro h; omega
    | succ n ih =>
      intro h
      rw [pickTo, List.length_append]
      by_cases e : j = n
      · subst e; rw [if_pos he]; simp
      · have := ih (by omega); omega
  exact hm _ hj
theorem whole_from (l : List Int) (hok : BytesOk l) (hm : l.length ≤ 100) : ∀ (d i : Nat), i + d = (presZ l).length → Ev (fun k => puncheonlaw06_CtxWhole.l0 k l true (sumTo l ((presZ l).take i)) (presZ l) (i : Int)) true
  | 0, i, hd => by
    have hp := presTo_len (metTo l l.length) 256
    refine Ev.step (fun _ => by rw [puncheonlaw06_CtxWhole.l0]) ?_
    refine ev_neg (by omega) (ev_pos rfl ?_)
    rw [List.take_of_length_le (by omega), sumTo_all hok]
    exact ev_obind (of_eq l hok (by omega)) (Ev.bind (ints_ev _ _ (by rw [cnt_len]; omega)) (ev_eq (Ev.now _) (by simp)))
  | d + 1, i, hd => by
    have hp : (presZ l).length ≤ 256 := presTo_len (metTo l l.length) 256
    obtain ⟨c, h1, h2, h3, h4⟩ := pres_get (metTo l l.length) 256 i (show i < (presTo (metTo l l.length) 256).length by unfold presZ at hd; omega)
    have h2 : (presZ l).getD i 0 = (c : Int) := h2
    obtain ⟨r1, r2⟩ := sumTo_right hok hm ((presZ l).take i) (by rw [List.length_take]; omega)
    have r3 := forZ_right hok (by omega) (c : Int)
    have r4 := forZ_sum hok (c : Int)
    have r5 := (forZ_facts hok (c : Int)).2
    have r6 := some_hit hok c h1 h3
    have r7 : ((presZ l).take i).length ≤ 256 := by rw [List.length_take]; omega
    refine Ev.step (fun _ => by rw [puncheonlaw06_CtxWhole.l0]) ?_
    rw [rd_nat, h2]
    refine ev_pos (by omega) (ev_pos (by omega) (ev_obind (for_eq l hok (by omega) (c : Int)) ?_))
    refine Ev.bind (add_ev _ _ r1 r3 (by omega)) (ev_pos rfl (Ev.bind (total_ev _ (by rw [forZ_len]; omega)) (ev_neg ?_ ?_)))
    · unfold totZ; rw [if_pos r3]; omega
    · have hn : sumTo l ((presZ l).take (i + 1)) = addL (sumTo l ((presZ l).take i)) (forZ l (c : Int)) := by
        rw [take_snocE _ i (by omega), h2, sumTo_snoc]
      have ih := whole_from l hok hm d (i + 1) (by omega)
      rw [hn] at ih
      rw [wnext i (by omega)]
      by_cases h0 : (i : Int) > 0
      · refine ev_pos h0 ?_
        rw [w64' (x := (i : Int) - 1) rfl (by omega) (by omega)]
        have h5 := h4 (i - 1) (by omega)
        refine ev_pos (by omega) (ev_pos (by omega) (ev_neg ?_ ih))
        rw [show rd (presZ l) ((i : Int) - 1) = (presZ l).getD (i - 1) 0 by unfold rd; rw [show ((i : Int) - 1).toNat = i - 1 by omega]]
        have h5 : (presZ l).getD (i - 1) 0 < c := h5
        omega
      · exact ev_neg h0 ih
theorem CtxWhole : puncheonlaw06_CtxWhole.Pure := by
  intro l hm hs hw
  have hok := u8s hw
  refine ev_bool (b := true) ?_ rfl
  unfold puncheonlaw06_CtxWhole.f
  refine Ev.bind awake06 ?_
  by_cases hb : (l.length : Int) > 100
  · exact ev_pos hb (Ev.now _)
  refine ev_neg hb (ev_pos (by omega) (ev_obind (pres_eq l hok (by omega)) ?_))
  exact whole_from l hok (by omega) _ 0 (Nat.zero_add _)
end Go.Proofs.Ythkpjjkjdklpmaa.Pure
