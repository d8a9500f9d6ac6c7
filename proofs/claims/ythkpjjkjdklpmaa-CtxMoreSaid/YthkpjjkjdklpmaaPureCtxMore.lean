/- The pure statement of CtxMore: a byte more is counted in the context of the last one; the widest is no less, and at most one more. -/
import Derived.Test.YthkpjjkjdklpmaaPcl
import Derived.Test.YthkpjjkjdklpmaaPPrx10
namespace Go.Proofs.Ythkpjjkjdklpmaa.Pure
open Go.RowKit Go.Proofs.Ythkpjjkjdklpmaa.PPr Go.Proofs.YthkpjjkjdklpmaaW.PrintWords Go.Proofs.YthkpjjkjdklpmaaW.PrintLast Go.Proofs.YthkpjjkjdklpmaaW.PrintMore
theorem ctxAt_app (l m : List Int) (i : Nat) (h : i ≤ l.length) : ctxAt (l ++ m) i = ctxAt l i := by
  unfold ctxAt
  by_cases h0 : i = 0
  · rw [if_pos h0, if_pos h0]
  · rw [if_neg h0, if_neg h0, List.getD_eq_getElem?_getD, List.getD_eq_getElem?_getD, List.getElem?_append_left (by omega)]
theorem pick_app (l m : List Int) (c : Int) : ∀ i, i ≤ l.length → pickTo (l ++ m) c i = pickTo l c i
  | 0, _ => rfl
  | i + 1, hi => by
    rw [pickTo, pickTo, pick_app l m c i (by omega), ctxAt_app l m i (by omega)]
    rw [show (l ++ m).getD i 0 = l.getD i 0 by rw [List.getD_eq_getElem?_getD, List.getD_eq_getElem?_getD, List.getElem?_append_left (by omega)]]
theorem pick_more (l : List Int) (v c : Int) (h : 0 < l.length) : pickTo (l ++ [v]) c (l ++ [v]).length = pickTo l c l.length ++ (if l.getD (l.length - 1) 0 = c then [v] else []) := by
  rw [List.length_append, List.length_singleton, pickTo, pick_app l [v] c l.length (Nat.le_refl _), ctxAt_app l [v] l.length (Nat.le_refl _)]
  rw [show (l ++ [v]).getD l.length 0 = v by simp [List.getD_eq_getElem?_getD]]
  rw [show ctxAt l l.length = l.getD (l.length - 1) 0 from if_neg (by omega)]
theorem pos_set1 (l : List Int) (i : Nat) (h : i < l.length) (h0 : 0 ≤ l.getD i 0) : pos l ≤ pos (l.set i (l.getD i 0 + 1)) ∧ pos (l.set i (l.getD i 0 + 1)) ≤ pos l + 1 := by
  rw [pos_set l i _ h]
  split <;> split <;> omega
theorem for_more (l : List Int) (v c : Int) (h : 0 < l.length) (h0 : 0 ≤ v) (h1 : v ≤ 255) : forZ (l ++ [v]) c = if l.getD (l.length - 1) 0 = c then (forZ l c).set v.toNat ((forZ l c).getD v.toNat 0 + 1) else forZ l c := by
  unfold forZ
  rw [pick_more l v c h]
  split
  · exact cnt_snoc _ v h0 h1
  · rw [List.append_nil]
theorem wid_more (l : List Int) (v : Int) (h : 0 < l.length) (h0 : 0 ≤ v) (h1 : v ≤ 255) (hok : BytesOk l) (hok2 : BytesOk (l ++ [v])) (hm : l.length ≤ 1000) : ∀ k, widTo l k ≤ widTo (l ++ [v]) k ∧ widTo (l ++ [v]) k ≤ widTo l k + 1
  | 0 => by simp [widTo]
  | k + 1 => by
    have ih := wid_more l v h h0 h1 hok hok2 hm k
    have e : manyZ (forZ l (k : Int)) ≤ manyZ (forZ (l ++ [v]) (k : Int)) ∧ manyZ (forZ (l ++ [v]) (k : Int)) ≤ manyZ (forZ l (k : Int)) + 1 := by
      rw [forZ_many hok (by omega), forZ_many hok2 (by rw [List.length_append, List.length_singleton]; omega), for_more l v _ h h0 h1]
      split
      · have hp := right_get (forZ_right hok (by omega) (k : Int)) v.toNat (by omega)
        exact pos_set1 _ _ (by rw [forZ_len]; omega) hp.1
      · omega
    rw [widTo, widTo]
    unfold mx
    split <;> split <;> omega
theorem CtxMore : puncheonlaw06_CtxMore.Pure := by
  intro l v c hm hs hw hv hc
  have hok := u8s hw
  have hv := bounds_u8 hv
  have hc := bounds_u8 hc
  refine ev_bool (b := true) ?_ rfl
  unfold puncheonlaw06_CtxMore.f
  refine Ev.bind awake06 ?_
  have end_ : Ev (fun k => puncheonlaw06_CtxMore.j0 k l v c true true) true := Ev.step (fun _ => by rw [puncheonlaw06_CtxMore.j0]) (ev_pos rfl (Ev.now _))
  by_cases hb : (l.length : Int) > 100
  · exact ev_pos hb end_
  refine ev_neg hb ?_
  by_cases h0 : l.length = 0
  · rw [show ((l.length : Int) == 0) = true by rw [h0]; rfl]; exact end_
  rw [show ((l.length : Int) == 0) = false from beq_eq_false_iff_ne.2 (by omega)]
  have hl : l.length ≤ 1099511627776 := by omega
  have hok2 : BytesOk (l ++ [v]) := BytesOk.append hok (fun x hx => by rw [List.mem_singleton.1 hx]; exact hv)
  have hl2 : (l ++ [v]).length ≤ 1099511627776 := by rw [List.length_append, List.length_singleton]; omega
  have hlast := hok.at (l.length - 1) (by omega)
  have hrd : rd l ((l.length : Int) - 1) = l.getD (l.length - 1) 0 := by unfold rd; rw [show ((l.length : Int) - 1).toNat = l.length - 1 by omega]
  refine Ev.step (fun _ => by rw [puncheonlaw06_CtxMore.j0]) ?_
  refine ev_neg (by simp) (ev_obind rfl (ev_pos (by simp; omega) (ev_obind rfl (ev_pos (by simp; omega) (ev_obind rfl ?_)))))
  rw [List.nil_append, w64' (x := c) rfl (by omega) (by omega)]
  refine ev_obind (for_eq l hok hl c) (ev_obind (for_eq _ hok2 hl2 c) (ev_pos (by rw [forZ_len]; rfl) ?_))
  rw [show (((forZ (l ++ [v]) c).length : Int) != 256) = false by rw [forZ_len]; rfl]
  refine Ev.step (fun _ => by rw [puncheonlaw06_CtxMore.j1]) ?_
  refine ev_neg (by simp) ?_
  rw [w64' (x := (l.length : Int) - 1) rfl (by omega) (by omega), hrd]
  refine ev_pos (by omega) (ev_pos (by omega) ?_)
  have fin_ : ∀ x, x = forZ (l ++ [v]) c → Ev (fun k => puncheonlaw06_CtxMore.j2 k l true (l ++ [v]) x (forZ (l ++ [v]) c)) true := by
    intro x hx
    subst hx
    have hw := wid_more l v (by omega) hv.1 hv.2 hok hok2 (by omega) 256
    have hwb := widTo_bd l 256
    refine Ev.step (fun _ => by rw [puncheonlaw06_CtxMore.j2]) ?_
    refine Ev.bind (wid_ev _ hok2 hl2) (ev_pos rfl (Ev.bind (ints_ev _ _ (by rw [forZ_len]; omega)) (ev_pos (by simp) ?_)))
    refine Ev.bind (wid_ev l hok hl) (ev_pos hw.1 (Ev.bind (wid_ev l hok hl) (ev_pos (by rw [w64' (x := widTo l 256 + 1) rfl (by omega) (by omega)]; exact hw.2) ?_)))
    rw [w64' (x := (l.length : Int) - 1) rfl (by omega) (by omega), hrd]
    refine Ev.bind (at_ev _ hok2 hl2 (l.length : Int) (by omega) (by omega)) (ev_pos (by omega) (ev_pos (by omega) (ev_eq (Ev.now _) ?_)))
    rw [beq_iff_eq, atZ, if_pos (by rw [List.length_append, List.length_singleton]; omega), Int.toNat_natCast, ctxAt_app _ _ _ (Nat.le_refl _), show ctxAt l l.length = l.getD (l.length - 1) 0 from if_neg (by omega)]
    exact (w64' rfl (by omega) (by omega)).symm
  have hf := for_more l v c (by omega) hv.1 hv.2
  by_cases hcl : c = l.getD (l.length - 1) 0
  · refine ev_pos hcl (ev_pos (by omega) (ev_pos (by rw [forZ_len]; omega) ?_))
    have hp := right_get (forZ_right hok (by omega) c) v.toNat (by omega)
    rw [if_pos hcl.symm] at hf
    rw [show rd (forZ l c) v = (forZ l c).getD v.toNat 0 from rfl, w64' (x := (forZ l c).getD v.toNat 0 + 1) rfl (by omega) (by omega)]
    exact fin_ _ hf.symm
  · refine ev_neg hcl (fin_ _ ?_)
    rw [if_neg (fun h => hcl h.symm)] at hf
    exact hf.symm
end Go.Proofs.Ythkpjjkjdklpmaa.Pure
