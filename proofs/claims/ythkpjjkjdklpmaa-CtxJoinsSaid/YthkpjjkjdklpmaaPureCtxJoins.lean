/- The pure statement of CtxJoins: of bytes behind bytes the counts are both's, but for the first one of the latter. -/
import Derived.Test.YthkpjjkjdklpmaaPcl
import Derived.Test.YthkpjjkjdklpmaaPPrx8
namespace Go.Proofs.Ythkpjjkjdklpmaa.Pure
open Go.RowKit Go.Proofs.Ythkpjjkjdklpmaa.PPr Go.Proofs.YthkpjjkjdklpmaaW.PrintWords Go.Proofs.YthkpjjkjdklpmaaW.PrintLast Go.Proofs.YthkpjjkjdklpmaaW.PrintMore
theorem ctxAt_appJ (l m : List Int) (i : Nat) (h : i ≤ l.length) : ctxAt (l ++ m) i = ctxAt l i := by
  unfold ctxAt
  by_cases h0 : i = 0
  · rw [if_pos h0, if_pos h0]
  · rw [if_neg h0, if_neg h0, List.getD_eq_getElem?_getD, List.getD_eq_getElem?_getD, List.getElem?_append_left (by omega)]
theorem pick_appJ (l m : List Int) (c : Int) : ∀ i, i ≤ l.length → pickTo (l ++ m) c i = pickTo l c i
  | 0, _ => rfl
  | i + 1, hi => by
    rw [pickTo, pickTo, pick_appJ l m c i (by omega), ctxAt_appJ l m i (by omega)]
    rw [show (l ++ m).getD i 0 = l.getD i 0 by rw [List.getD_eq_getElem?_getD, List.getD_eq_getElem?_getD, List.getElem?_append_left (by omega)]]
theorem getD_right (l m : List Int) (j : Nat) : (l ++ m).getD (l.length + j) 0 = m.getD j 0 := by
  rw [List.getD_eq_getElem?_getD, List.getD_eq_getElem?_getD, List.getElem?_append_right (by omega), Nat.add_sub_cancel_left]
theorem count_one (x v : Int) : (([x] : List Int).count v : Int) = if x = v then 1 else 0 := by
  rw [List.count_singleton]; by_cases h : x = v <;> simp [h]
theorem count_if (p : Prop) [Decidable p] (x v : Int) : (((if p then [x] else []) : List Int).count v : Int) = if p then (if x = v then 1 else 0) else 0 := by
  split
  · exact count_one x v
  · simp
/-- the counts, byte for byte -/
theorem count_join (a b : List Int) (c v : Int) (ha : 0 < a.length) : ∀ j, j < b.length →
    ((pickTo (a ++ b) c (a.length + (j + 1))).count v : Int) = (pickTo a c a.length).count v + (pickTo b c (j + 1)).count v - (if c = 0 then (if b.getD 0 0 = v then 1 else 0) else 0) + (if c = a.getD (a.length - 1) 0 then (if b.getD 0 0 = v then 1 else 0) else 0)
  | 0, hj => by
    have h1 : ctxAt (a ++ b) a.length = a.getD (a.length - 1) 0 := by rw [ctxAt_appJ a b _ (Nat.le_refl _)]; exact if_neg (by omega)
    rw [show a.length + (0 + 1) = a.length + 1 from rfl, pickTo, pick_appJ a b c _ (Nat.le_refl _), h1, List.count_append, show (a ++ b).getD a.length 0 = b.getD 0 0 from getD_right a b 0]
    rw [pickTo, show ctxAt b 0 = 0 from rfl, show pickTo b c 0 = [] from rfl, List.nil_append, Int.natCast_add, count_if, count_if]
    generalize a.getD (a.length - 1) 0 = p
    generalize (if b.getD 0 0 = v then (1 : Int) else 0) = X
    generalize ((pickTo a c a.length).count v : Int) = A
    split <;> split <;> split <;> split <;> omega
  | j + 1, hj => by
    have ih := count_join a b c v ha j (by omega)
    have h1 : ctxAt (a ++ b) (a.length + (j + 1)) = ctxAt b (j + 1) := by
      unfold ctxAt
      rw [if_neg (by omega), if_neg (by omega), show a.length + (j + 1) - 1 = a.length + j by omega, getD_right, Nat.add_sub_cancel]
    rw [show a.length + (j + 1 + 1) = (a.length + (j + 1)) + 1 by omega, pickTo, h1, getD_right, List.count_append, Int.natCast_add, ih, show pickTo b c (j + 1 + 1) = pickTo b c (j + 1) ++ (if ctxAt b (j + 1) = c then [b.getD (j + 1) 0] else []) from rfl, List.count_append, Int.natCast_add]
    omega
theorem CtxJoins : puncheonlaw06_CtxJoins.Pure := by
  intro a b c hm hs hw hm2 hs2 hw2 hc
  have hok := u8s hw
  have hok2 := u8s hw2
  have hc := bounds_u8 hc
  refine ev_bool (b := true) ?_ rfl
  unfold puncheonlaw06_CtxJoins.f
  refine Ev.bind awake06 ?_
  have end_ : Ev (fun k => puncheonlaw06_CtxJoins.j0 k a b c true true) true := by
    refine Ev.step (fun _ => by rw [puncheonlaw06_CtxJoins.j0]) ?_
    exact ev_pos rfl (Ev.now _)
  by_cases hb : (a.length : Int) > 100
  · exact ev_pos hb end_
  refine ev_neg hb ?_
  by_cases hb2 : (b.length : Int) > 100
  · exact ev_pos hb2 end_
  refine ev_neg hb2 ?_
  by_cases h0 : (a.length : Int) = 0
  · exact ev_pos h0 end_
  refine ev_neg h0 ?_
  by_cases h1 : b.length = 0
  · rw [show ((b.length : Int) == 0) = true by rw [h1]; rfl]; exact end_
  rw [show ((b.length : Int) == 0) = false from beq_eq_false_iff_ne.2 (by omega)]
  have hl : a.length ≤ 1099511627776 := by omega
  have hl2 : b.length ≤ 1099511627776 := by omega
  have hok3 : BytesOk (a ++ b) := BytesOk.append hok hok2
  have hl3 : (a ++ b).length ≤ 1099511627776 := by rw [List.length_append]; omega
  have hlast := hok.at (a.length - 1) (by omega)
  have hfst := hok2.at 0 (by omega)
  have hrd : rd a ((a.length : Int) - 1) = a.getD (a.length - 1) 0 := by unfold rd; rw [show ((a.length : Int) - 1).toNat = a.length - 1 by omega]
  have ra := forZ_right hok (by omega) c
  have rb := forZ_right hok2 (by omega) c
  have sa := forZ_sum hok c
  have sb := forZ_sum hok2 c
  have la := (forZ_facts hok c).2
  have lb := (forZ_facts hok2 c).2
  refine Ev.step (fun _ => by rw [puncheonlaw06_CtxJoins.j0]) ?_
  refine ev_neg (by simp) (ev_obind rfl (ev_pos (by simp; omega) (ev_obind rfl (ev_pos (by simp; omega) (ev_obind rfl ?_)))))
  rw [List.nil_append, w64' (x := c) rfl (by omega) (by omega)]
  refine ev_obind (for_eq a hok hl c) (ev_obind (for_eq b hok2 hl2 c) (ev_obind (for_eq _ hok3 hl3 c) (ev_pos (by rw [forZ_len]; rfl) (ev_pos (by rw [forZ_len]; rfl) ?_))))
  rw [show (((forZ (a ++ b) c).length : Int) != 256) = false by rw [forZ_len]; rfl]
  refine Ev.step (fun _ => by rw [puncheonlaw06_CtxJoins.j1]) ?_
  refine ev_neg (by simp) (ev_pos (by omega) ?_)
  -- what is wanted
  have hz : ∀ v, v < 256 → (forZ (a ++ b) c).getD v 0 = (forZ a c).getD v 0 + (forZ b c).getD v 0 - (if c = 0 then (if b.getD 0 0 = (v : Int) then 1 else 0) else 0) + (if c = a.getD (a.length - 1) 0 then (if b.getD 0 0 = (v : Int) then 1 else 0) else 0) := by
    intro v hv
    unfold forZ
    rw [cnt_get _ _ hv, cnt_get _ _ hv, cnt_get _ _ hv]
    have h := count_join a b c (v : Int) (by omega) (b.length - 1) (by omega)
    rw [show b.length - 1 + 1 = b.length by omega, ← List.length_append] at h
    exact h
  have fin_ : ∀ x, x = forZ (a ++ b) c → Ev (fun k => (puncheonref01_Ints.f k (forZ (a ++ b) c) x).bind fun t211 => (if t211 = true then ((ctx_At.f k (a ++ b) (a.length : Int)).bind fun t212 => (some (t212 == (wrap64 (rd a (wrap64 ((a.length : Int) - 1))))))) else (some false))) true := by
    intro x hx
    subst hx
    refine Ev.bind (ints_ev _ _ (by rw [forZ_len]; omega)) (ev_pos (by simp) ?_)
    rw [w64' (x := (a.length : Int) - 1) rfl (by omega) (by omega), hrd]
    refine Ev.bind (at_ev _ hok3 hl3 (a.length : Int) (by omega) (by omega)) (ev_eq (Ev.now _) ?_)
    rw [beq_iff_eq, atZ, if_pos (by rw [List.length_append]; omega), Int.toNat_natCast, ctxAt_appJ _ _ _ (Nat.le_refl _), show ctxAt a a.length = a.getD (a.length - 1) 0 from if_neg (by omega)]
    exact (w64' rfl (by omega) (by omega)).symm
  have j3_ : ∀ x : List Int, x.length = 256 → (∀ v, v < 256 → x.getD v 0 = (forZ a c).getD v 0 + (forZ b c).getD v 0 - (if c = 0 then (if b.getD 0 0 = (v : Int) then 1 else 0) else 0)) → Ev (fun k => puncheonlaw06_CtxJoins.j3 k a b c true (a ++ b) (forZ (a ++ b) c) x) true := by
    intro x hx hv
    have hA := right_get ra (b.getD 0 0).toNat (by omega)
    have hB := right_get rb (b.getD 0 0).toNat (by omega)
    have hX := hv (b.getD 0 0).toNat (by omega)
    refine Ev.step (fun _ => by rw [puncheonlaw06_CtxJoins.j3]) ?_
    rw [w64' (x := (a.length : Int) - 1) rfl (by omega) (by omega), hrd]
    refine ev_pos (by omega) (ev_pos (by omega) ?_)
    by_cases e : c = a.getD (a.length - 1) 0
    · refine ev_pos e (ev_pos (by omega) ?_)
      rw [show rd b 0 = b.getD 0 0 from rfl]
      refine ev_pos (by omega) (ev_pos (by omega) (ev_pos rfl ?_))
      have hw1 : wrap64 (rd x (b.getD 0 0) + 1) = x.getD (b.getD 0 0).toNat 0 + 1 := by
        refine w64' rfl ?_ ?_
        · rw [hX]; repeat' split
          all_goals omega
        · rw [hX]; repeat' split
          all_goals omega
      rw [hw1]
      have h := fin_ (x.set (b.getD 0 0).toNat (x.getD (b.getD 0 0).toNat 0 + 1)) (by
        apply ext_getDE
        · rw [List.length_set, hx, forZ_len]
        · intro v hv2
          rw [List.length_set, hx] at hv2
          rw [getD_set _ _ _ _ (by omega), hz v hv2, if_pos e]
          have := hv v hv2
          by_cases e2 : (b.getD 0 0).toNat = v
          · subst e2
            rw [if_pos rfl, this, if_pos (show b.getD 0 0 = (((b.getD 0 0).toNat : Nat) : Int) by omega)]
          · rw [if_neg e2, this, if_neg (show ¬ b.getD 0 0 = (v : Int) by omega)]; omega)
      rw [w64' (x := (a.length : Int) - 1) rfl (by omega) (by omega), hrd] at h
      exact h
    · refine ev_neg e (ev_pos rfl ?_)
      have h := fin_ x (by
        apply ext_getDE
        · rw [hx, forZ_len]
        · intro v hv2
          rw [hx] at hv2
          rw [hz v hv2, if_neg e, hv v hv2]; omega)
      rw [w64' (x := (a.length : Int) - 1) rfl (by omega) (by omega), hrd] at h
      exact h
  have loop : ∀ (d i : Nat), i + d = 256 → Ev (fun k => puncheonlaw06_CtxJoins.l0 k a b c true (a ++ b) (forZ a c) (forZ b c) (forZ (a ++ b) c) (addK (forZ a c) (forZ b c) i) (i : Int)) true := by
    intro d
    induction d with
    | zero =>
      intro i hi
      obtain rfl : i = 256 := by omega
      refine Ev.step (fun _ => by rw [puncheonlaw06_CtxJoins.l0]) ?_
      refine ev_neg (by omega) ?_
      rw [addK_all]
      by_cases e : c = 0
      · refine ev_pos e (ev_pos (by omega) ?_)
        rw [show rd b 0 = b.getD 0 0 from rfl]
        refine ev_pos (by omega) (ev_pos (by rw [addL_len]; omega) ?_)
        have hA := right_get ra (b.getD 0 0).toNat (by omega)
        have hB := right_get rb (b.getD 0 0).toNat (by omega)
        have hg := addL_get (forZ a c) (forZ b c) (b.getD 0 0).toNat (by omega)
        rw [show rd (addL (forZ a c) (forZ b c)) (b.getD 0 0) = (addL (forZ a c) (forZ b c)).getD (b.getD 0 0).toNat 0 from rfl, w64' (x := (addL (forZ a c) (forZ b c)).getD (b.getD 0 0).toNat 0 - 1) rfl (by omega) (by omega)]
        refine j3_ _ (by rw [List.length_set, addL_len]) (fun v hv => ?_)
        rw [getD_set _ _ _ _ (by rw [addL_len]; omega), if_pos e]
        by_cases e2 : (b.getD 0 0).toNat = v
        · subst e2
          rw [if_pos rfl, hg, if_pos (show b.getD 0 0 = (((b.getD 0 0).toNat : Nat) : Int) by omega)]
        · rw [if_neg e2, addL_get _ _ _ hv, if_neg (show ¬ b.getD 0 0 = (v : Int) by omega)]; omega
      · refine ev_neg e (j3_ _ (addL_len _ _) (fun v hv => ?_))
        rw [addL_get _ _ _ hv, if_neg e]; omega
    | succ d ih =>
      intro i hi
      have hA := right_get ra i (by omega)
      have hB := right_get rb i (by omega)
      refine Ev.step (fun _ => by rw [puncheonlaw06_CtxJoins.l0]) ?_
      refine ev_pos (by omega) (ev_pos (by omega) (ev_pos (by rw [forZ_len]; omega) (ev_pos (by rw [forZ_len]; omega) (ev_pos (by rw [addK_len]; omega) ?_))))
      rw [rd_nat, rd_nat, wnext i (by omega), w64' (x := (forZ a c).getD i 0 + (forZ b c).getD i 0) rfl (by omega) (by omega), Int.toNat_natCast, addK_set _ _ i (by omega)]
      exact ih (i + 1) (by omega)
  have h := loop 256 0 (by omega)
  rw [addK_0] at h
  exact h
end Go.Proofs.Ythkpjjkjdklpmaa.Pure
