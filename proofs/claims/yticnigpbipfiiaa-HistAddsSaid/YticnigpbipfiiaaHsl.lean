/- The statements of the layer hist: each law's walk, out of the contracts. -/
import Derived.Test.YticnigpbipfiiaaHsc
import Derived.Deep.DeepMust
namespace Go.Proofs.Yticnigpbipfiiaa
open Go.RowKit Go.Proofs.YticnigpbipfiiaaW.PrintWords Go.Proofs.YticnigpbipfiiaaW.PrintLast Go.Proofs.YticnigpbipfiiaaW.PrintMore
attribute [local go_sem] max2_int min2_int max_two min_two max_three min_three max_four min_four
set_option linter.unusedSimpArgs false
set_option linter.unusedVariables false
set_option maxHeartbeats 400000 in
set_option maxRecDepth 20000 in
theorem awake05 (w : World) :
    Calls Try.prog 8 #[] w fun e w' => e = .returned (.bool true) ∧ Below w.heap.size w w' := by
  have e0 : (cnt [1, 1, 0]).getD 0 0 = 1 := by decide
  have e1 : (cnt [1, 1, 0]).getD 1 0 = 2 := by decide
  have e2 : (cnt [1, 1, 0]).getD 255 0 = 0 := by decide
  have e3 : rightB (cnt [1, 1, 0]) = true := by decide +kernel
  have e4 : manyZ (cnt [1, 1, 0]) = 2 := by decide +kernel
  have e5 : totZ (cnt [1, 1, 0]) = 3 := by decide +kernel
  have hl := Lib.hid (cnt_len [1, 1, 0])
  have hb : BytesOk [1, 1, 0] := by unfold BytesOk; decide
  have HBO := Lib.hid hb
  clear hb
  go_enter Try.func8, Try.ntmps8
  go_wp2_with (first
    | (go_at_call 10; (refine (of_at _ _ [1, 1, 0] _ _ rfl (lit_reads w .u8 5 [1, 1, 0] (by simp)) HBO.out).mono ?_); rintro e w1 ⟨v, rfl, ho, hb1⟩; obtain ⟨A, c, rfl, hle, hr⟩ := own_reads' ho; have HR := Lib.hid hr; have HB1 := Lib.hid hb1; clear hr hb1 ho; obtain ⟨ad, rfl, hc⟩ := reads_all HR.out (by omega); have h0 := hc 0 (by omega); have h1 := hc 1 (by omega); have h2 := hc 255 (by omega); clear hc; rw [e0, add_zero'] at h0; rw [e1, add_lit _ _ (by omega)] at h1; rw [e2, add_lit _ _ (by omega)] at h2)
    | (go_at_call 12; (with_reducible refine (right_at _ _ _ _ _ hl.out HR.out).mono ?_); rintro e w' ⟨rfl, rfl⟩)
    | (go_at_call 14; (with_reducible refine (many_at _ _ _ _ _ hl.out HR.out).mono ?_); rintro e w' ⟨rfl, rfl⟩)
    | (go_at_call 16; (with_reducible refine (total_at _ _ _ _ _ hl.out HR.out).mono ?_); rintro e w' ⟨rfl, rfl⟩))
  go_ret
  exact ⟨rfl, below_then' ((Below.refl _ _).alloc (Nat.le_refl _) _) HB1.out⟩
set_option maxHeartbeats 1000000 in
theorem counts_walk (a : Option Addr) (len cap : Nat) (zs : List Int) (w : World) (h : IsRow .u8 w a len cap zs) (y : len * 1 ≤ 140737488351232) :
    Calls Try.prog 3 #[.slice a len cap] w fun e w' => e = .returned (.bool true) ∧ Below w.heap.size w w' := by
  obtain ⟨l, hl, hr, hcap, hwf⟩ := h.reads (by omega)
  have R0 := Lib.hid hr
  have BO := Lib.hid (show BytesOk l from wf_u8 hwf)
  have HL := Lib.hid hl
  have HB := Below.refl w.heap.size w
  have CL := Lib.hid (cnt_len l)
  have EQ := eqL_self (cnt l)
  clear h y hr hl hwf hcap
  by_cases h200 : len ≤ 200
  · go_enter Try.func3, Try.ntmps3
    go_wp2_with (first
      | (go_at_call 8; (with_reducible refine (awake05 _).mono ?_); rintro e w1 ⟨rfl, hb⟩; replace R0 := Lib.hid (R0.out.below hb); replace HB := below_then' HB hb; clear hb)
      | (go_at_call 10; (with_reducible refine (of_at _ _ l _ _ HL.out R0.out BO.out).mono ?_); rintro e w1 ⟨v, rfl, ho, hb⟩; obtain ⟨A1, c1, rfl, hle, hr⟩ := own_reads' ho; replace R0 := Lib.hid (R0.out.below hb); have R1 := Lib.hid hr; replace HB := below_then' HB hb; clear hb hr ho)
      | (go_at_call 11; (with_reducible refine (rof_at _ _ l _ _ HL.out R0.out BO.out).mono ?_); rintro e w1 ⟨v, rfl, ho, hb⟩; obtain ⟨A2, c2, rfl, hle2, hr⟩ := own_reads' ho; replace R1 := Lib.hid (R1.out.below hb); have R2 := Lib.hid hr; replace HB := below_then' HB hb; clear hb hr ho)
      | (go_at_call 9; (with_reducible refine (ints_at _ _ _ _ (cnt l) (cnt l) _ _ _ CL.out CL.out R1.out R2.out).mono ?_); rintro e w1 ⟨rfl, hb⟩; replace HB := below_then' HB hb; clear hb))
    go_ret
    exact ⟨rfl, HB⟩
  · go_enter Try.func3, Try.ntmps3
    go_wp2_with (first
      | (go_at_call 8; (with_reducible refine (awake05 _).mono ?_); rintro e w1 ⟨rfl, hb⟩; replace HB := below_then' HB hb; clear hb))
    go_ret
    exact ⟨rfl, HB⟩
set_option maxHeartbeats 1000000 in
theorem tells_walk (a : Option Addr) (len cap : Nat) (zs : List Int) (w : World) (h : IsRow .i64 w a len cap zs) (y : len * 8 ≤ 140737488351232) :
    Calls Try.prog 4 #[.slice a len cap] w fun e w' => e = .returned (.bool true) ∧ Below w.heap.size w w' := by
  obtain ⟨l, hl, hr, hcap, hwf⟩ := h.reads (by omega)
  have R0 := Lib.hid hr
  have HL := Lib.hid hl
  have WF := Lib.hid (wf_i64 hwf)
  have HB := Below.refl w.heap.size w
  clear h y hr hl hwf hcap
  by_cases h200 : len ≤ 300
  · go_enter Try.func4, Try.ntmps4
    go_wp2_with (first
      | (go_at_call 8; (with_reducible refine (awake05 _).mono ?_); rintro e w1 ⟨rfl, hb⟩; replace R0 := Lib.hid (R0.out.below hb); replace HB := below_then' HB hb; clear hb)
      | (go_at_call 12; (with_reducible refine (right_at _ _ l _ _ HL.out R0.out).mono ?_); rintro e w1 ⟨rfl, rfl⟩)
      | (go_at_call 14; (with_reducible refine (many_at _ _ l _ _ HL.out R0.out).mono ?_); rintro e w1 ⟨rfl, rfl⟩)
      | (go_at_call 16; (with_reducible refine (total_at _ _ l _ _ HL.out R0.out).mono ?_); rintro e w1 ⟨rfl, rfl⟩)
      | (go_at_call 13; (with_reducible refine (rright_at _ _ l _ _ HL.out R0.out WF.out).mono ?_); rintro e w1 ⟨rfl, hb⟩; replace R0 := Lib.hid (R0.out.below hb); replace HB := below_then' HB hb; clear hb)
      | (go_at_call 15; (with_reducible refine (rmany_at _ _ l _ _ HL.out R0.out WF.out).mono ?_); rintro e w1 ⟨rfl, hb⟩; replace R0 := Lib.hid (R0.out.below hb); replace HB := below_then' HB hb; clear hb)
      | (go_at_call 17; (with_reducible refine (rtotal_at _ _ l _ _ HL.out R0.out WF.out).mono ?_); rintro e w1 ⟨rfl, hb⟩; replace R0 := Lib.hid (R0.out.below hb); replace HB := below_then' HB hb; clear hb))
    go_ret
    exact ⟨rfl, HB⟩
  · go_enter Try.func4, Try.ntmps4
    go_wp2_with (first
      | (go_at_call 8; (with_reducible refine (awake05 _).mono ?_); rintro e w1 ⟨rfl, hb⟩; replace HB := below_then' HB hb; clear hb))
    go_ret
    exact ⟨rfl, HB⟩
set_option maxHeartbeats 1000000 in
set_option maxRecDepth 20000 in
theorem more_walk (a : Option Addr) (len cap : Nat) (zs : List Int) (v : Int) (w : World) (h : IsRow .u8 w a len cap zs) (y : len * 1 ≤ 140737488351232) (hv : (Lit.int .u8 v).wf = true) :
    Calls Try.prog 5 #[.slice a len cap, .int .u8 v] w fun e w' => e = .returned (.bool true) ∧ Below w.heap.size w w' := by
  obtain ⟨l, hl, hr, hcap, hwf⟩ := h.reads (by omega)
  have v0 := bounds_u8 hv
  obtain ⟨V, rfl⟩ : ∃ V : Nat, v = V := ⟨v.toNat, by omega⟩
  have R0 := Lib.hid hr
  have BO := Lib.hid (show BytesOk l from wf_u8 hwf)
  have HL := Lib.hid hl
  have HB := Below.refl w.heap.size w
  have CL := Lib.hid (cnt_len l)
  have CL2 := Lib.hid (cnt_len (l ++ [(V : Int)]))
  have EQ := eqL_self (cnt (l ++ [(V : Int)]))
  clear h y hr hl hwf hcap hv
  by_cases h200 : len ≤ 200
  · obtain ⟨f1, f2, f3, f4, f5, f6, f7, f8⟩ := more_facts l V BO.out (by omega) (by have := HL.out; omega)
    have F1 := Lib.hid f1
    have F8 := Lib.hid f8
    rw [HL.out] at f3 f7
    clear f1 f8
    have HL2 := Lib.hid (show (l ++ [(V : Int)]).length = len + 1 by simp [HL.out])
    generalize hD : cnt (l ++ [(V : Int)]) = D at F1 f4 f7 EQ CL2
    have HD := Lib.hid hD
    clear hD
    generalize hE : cnt l = E at F1 f2 f3 f4 f5 f6 CL
    have HE := Lib.hid hE
    clear hE
    generalize hX : E.getD V 0 = X at f2 f3 f4 F1
    have HX := Lib.hid hX
    clear hX
    have S0 := Lib.hid trivial
    have S1 := Lib.hid trivial
    have X1 : (X == 0) = decide (X = 0) := by rw [Bool.eq_iff_iff, beq_iff_eq, decide_eq_true_iff]
    by_cases hx0 : X = 0
    all_goals
      first | (rw [if_pos hx0] at f4; rw [decide_eq_true hx0] at X1) | (rw [if_neg hx0] at f4; rw [decide_eq_false hx0] at X1)
      clear hx0
      go_enter Try.func5, Try.ntmps5
      go_wp2_with (first
        | (go_at_call 8; (with_reducible refine (awake05 _).mono ?_); rintro e w1 ⟨rfl, hb⟩; replace R0 := Lib.hid (R0.out.below hb); replace HB := below_then' HB hb; clear hb)
        | (go_at_call 10; clear S0; (with_reducible refine (of_at _ _ l _ _ HL.out R0.out BO.out).mono ?_); rintro e w1 ⟨v, rfl, ho, hb⟩; rw [HE.out] at ho; obtain ⟨g, c1, rfl, hgb, hgl⟩ := ho.form (by omega); have G0 := Lib.hid (Nat.le_trans HB.size hgb); have GL := Lib.hid hgl; have O1 := Lib.hid ho; replace R0 := Lib.hid (R0.out.below hb); replace HB := below_then' HB hb; clear hb ho hgb hgl)
        | (at_builtin; clear S1; refine print_append_row (w0 := w1) w1.heap.size rfl (.tmp 16) (.tmp 17) 22 5 .u8 1 rfl Try.underlying22 info_u8 (by omega) _ [] l _ _ _ rfl rfl (own_lit _ w1.heap.size 5 .u8 [] (Nat.le_refl _) (by simp)) (R0.out.below ((Below.refl _ _).alloc (Nat.le_refl _) _)) ((Below.refl _ _).alloc (Nat.le_refl _) _) (by simp) (by simp; omega) ?_; intro va wa oa ba hx1 hx2; clear hx1 hx2; rw [List.nil_append] at oa; have OA := Lib.hid oa; have BA := Lib.hid ba; clear oa ba)
        | (at_builtin; refine print_append_num (w0 := w1) w1.heap.size rfl (.tmp 18) (.tmp 20) 22 5 .u8 1 rfl Try.underlying22 info_u8 (by omega) va l (V : Int) rfl rfl OA.out BA.out BA.out.size (by have := HL.out; omega) ?_; intro va wa oa ba hx1 hx2; clear hx1 hx2; rw [HL2.out] at oa; obtain ⟨A2, c2, rfl, hle2, hr2⟩ := own_reads' oa; have R2 := Lib.hid hr2; replace R0 := Lib.hid (R0.out.below ba); replace O1 := Lib.hid (pw_own_below O1.out ba); replace GL := Lib.hid (Nat.lt_of_lt_of_le GL.out ba.size); replace HB := below_then' HB ba; clear oa ba OA BA hr2)
        | (go_at_call 10; (with_reducible refine (of_at _ _ (l ++ [(V : Int)]) _ _ HL2.out R2.out F8.out).mono ?_); rintro e w2 ⟨v, rfl, ho, hb⟩; rw [HD.out] at ho; obtain ⟨g2, c2, rfl, hgb2, hgl2⟩ := ho.form (by omega); have GG := Lib.hid (show g ≠ g2 by have := GL.out; omega); replace O1 := Lib.hid (pw_own_below O1.out hb); replace HB := below_then' HB hb; have hcell := own_at O1.out (V : Int) (by omega) (by omega); rw [rd, Int.toNat_natCast, HX.out] at hcell; obtain ⟨hcl, hfz⟩ := hcell; have hst := own_store O1.out (V : Int) (X + 1); rw [Int.toNat_natCast, F1.out] at hst; have RS := Lib.hid (own_reads' hst.1); have O2 := own_setCell ho (p := ⟨g, V, none⟩) (by have := GG.out; simpa [Value.ownBlock] using this) (.int .i64 (X + 1)); have RT := Lib.hid (own_reads' O2); have R1 := Lib.hid (own_reads' O1.out); have HBS := Lib.hid (HB.setCell (p := ⟨g, V, none⟩) G0.out (.int .i64 (X + 1))); clear hb ho hgb2 hgl2 hst O2)
        | (go_at_call 14; (obtain ⟨A', c', e', _, hr'⟩ := R1.out; cases e'; (with_reducible refine (many_at _ _ _ _ _ CL.out hr').mono ?_)); clear R1 hr'; rintro e w3 ⟨rfl, rfl⟩)
        | (go_at_call 9; (obtain ⟨A', c', e', _, q1⟩ := RS.out; cases e'); (obtain ⟨A', c', e', _, q2⟩ := RT.out; cases e'); (with_reducible refine (ints_at _ _ _ _ D D _ _ _ CL2.out CL2.out q1 q2).mono ?_); rintro e w4 ⟨rfl, hb⟩; have RY := Lib.hid (q2.below hb); replace HB := below_then' HBS.out hb; clear hb q1 q2)
        | (go_at_call 14; (with_reducible refine (many_at _ _ D _ _ CL2.out RY.out).mono ?_); rintro e w3 ⟨rfl, rfl⟩)
        | (go_at_call 16; (with_reducible refine (total_at _ _ D _ _ CL2.out RY.out).mono ?_); rintro e w3 ⟨rfl, rfl⟩))
      go_ret
      exact ⟨rfl, HB⟩
  · go_enter Try.func5, Try.ntmps5
    go_wp2_with (first
      | (go_at_call 8; (with_reducible refine (awake05 _).mono ?_); rintro e w1 ⟨rfl, hb⟩; replace HB := below_then' HB hb; clear hb))
    go_ret
    exact ⟨rfl, HB⟩
set_option maxHeartbeats 1000000 in
theorem adds_walk (a : Option Addr) (len cap : Nat) (zs : List Int) (b : Option Addr) (len2 cap2 : Nat) (zs2 : List Int) (w : World) (h : IsRow .i64 w a len cap zs) (y : len * 8 ≤ 140737488351232) (h' : IsRow .i64 w b len2 cap2 zs2) (y' : len2 * 8 ≤ 140737488351232) :
    Calls Try.prog 7 #[.slice a len cap, .slice b len2 cap2] w fun e w' => e = .returned (.bool true) ∧ Below w.heap.size w w' := by
  obtain ⟨l, rfl, hr, _, _⟩ := h.reads (by omega)
  obtain ⟨m, rfl, hq, _, _⟩ := h'.reads (by omega)
  have R0 := Lib.hid hr
  have R1 := Lib.hid hq
  have HB := Below.refl w.heap.size w
  clear h h' y y' hr hq
  by_cases hsz : l.length ≤ 300
  · by_cases hsz2 : m.length ≤ 300
    · have tl := totZ_bd l
      have tm := totZ_bd m
      have ml := manyZ_bd l
      have mm := manyZ_bd m
      cases hl : rightB l
      · go_enter Try.func7, Try.ntmps7
        go_wp2_with (first
      | (go_at_call 8; (with_reducible refine (awake05 _).mono ?_); rintro e w1 ⟨rfl, hb⟩; replace R0 := Lib.hid (R0.out.below hb); replace R1 := Lib.hid (R1.out.below hb); replace HB := below_then' HB hb; clear hb)
      | (go_at_call 18; (with_reducible refine (add_no _ _ l m _ _ _ R0.out R1.out (.inl hl)).mono ?_); rintro e w1 ⟨rfl, rfl⟩)
      | (go_at_call 12; (with_reducible refine (right_any _ l _ _ R0.out).mono ?_); rintro e w1 ⟨rfl, rfl⟩)
      | (go_at_call 12; (with_reducible refine (right_any _ m _ _ R1.out).mono ?_); rintro e w1 ⟨rfl, rfl⟩)
      | (go_at_call 16; (with_reducible refine (total_any _ l _ _ R0.out).mono ?_); rintro e w1 ⟨rfl, rfl⟩)
      | (go_at_call 16; (with_reducible refine (total_any _ m _ _ R1.out).mono ?_); rintro e w1 ⟨rfl, rfl⟩)
      | (go_at_call 14; (with_reducible refine (many_any _ l _ _ R0.out).mono ?_); rintro e w1 ⟨rfl, rfl⟩)
      | (go_at_call 14; (with_reducible refine (many_any _ m _ _ R1.out).mono ?_); rintro e w1 ⟨rfl, rfl⟩))
        go_ret
        exact ⟨rfl, HB⟩
      · cases hm : rightB m
        · go_enter Try.func7, Try.ntmps7
          go_wp2_with (first
      | (go_at_call 8; (with_reducible refine (awake05 _).mono ?_); rintro e w1 ⟨rfl, hb⟩; replace R0 := Lib.hid (R0.out.below hb); replace R1 := Lib.hid (R1.out.below hb); replace HB := below_then' HB hb; clear hb)
      | (go_at_call 18; (with_reducible refine (add_no _ _ l m _ _ _ R0.out R1.out (.inr ⟨hl, hm⟩)).mono ?_); rintro e w1 ⟨rfl, rfl⟩)
      | (go_at_call 12; (with_reducible refine (right_any _ l _ _ R0.out).mono ?_); rintro e w1 ⟨rfl, rfl⟩)
      | (go_at_call 12; (with_reducible refine (right_any _ m _ _ R1.out).mono ?_); rintro e w1 ⟨rfl, rfl⟩)
      | (go_at_call 16; (with_reducible refine (total_any _ l _ _ R0.out).mono ?_); rintro e w1 ⟨rfl, rfl⟩)
      | (go_at_call 16; (with_reducible refine (total_any _ m _ _ R1.out).mono ?_); rintro e w1 ⟨rfl, rfl⟩)
      | (go_at_call 14; (with_reducible refine (many_any _ l _ _ R0.out).mono ?_); rintro e w1 ⟨rfl, rfl⟩)
      | (go_at_call 14; (with_reducible refine (many_any _ m _ _ R1.out).mono ?_); rintro e w1 ⟨rfl, rfl⟩))
          go_ret
          exact ⟨rfl, HB⟩
        · have el : totZ l = l.sum := by unfold totZ; rw [if_pos hl]
          have em : totZ m = m.sum := by unfold totZ; rw [if_pos hm]
          by_cases hs : l.sum + m.sum ≤ 1073741824
          · obtain ⟨g1, g2, g3, g4, g5⟩ := adds_facts l m hl hm hs
            have HL := Lib.hid hl
            have HM := Lib.hid hm
            have HS := Lib.hid hs
            have AL := Lib.hid (addL_len l m)
            generalize hD : addL l m = D at g1 g2 g3 g4 g5 AL
            have HD := Lib.hid hD
            clear hD hl hm hs el em
            go_enter Try.func7, Try.ntmps7
            go_wp2_with (first
      | (go_at_call 8; (with_reducible refine (awake05 _).mono ?_); rintro e w1 ⟨rfl, hb⟩; replace R0 := Lib.hid (R0.out.below hb); replace R1 := Lib.hid (R1.out.below hb); replace HB := below_then' HB hb; clear hb)
      | (go_at_call 18; (with_reducible refine (add_made _ _ l m _ _ _ R0.out R1.out HL.out HM.out).mono ?_); rintro e w1 ⟨hy, _, hb⟩; obtain ⟨v, rfl, ho⟩ := hy HS.out; rw [HD.out] at ho; obtain ⟨A2, c2, rfl, hle, hr⟩ := own_reads' ho; replace R0 := Lib.hid (R0.out.below hb); replace R1 := Lib.hid (R1.out.below hb); replace HB := below_then' HB hb; have R2 := Lib.hid hr; clear hb hy ho hr)
      | (go_at_call 12; (with_reducible refine (right_any _ l _ _ R0.out).mono ?_); rintro e w1 ⟨rfl, rfl⟩)
      | (go_at_call 12; (with_reducible refine (right_any _ m _ _ R1.out).mono ?_); rintro e w1 ⟨rfl, rfl⟩)
      | (go_at_call 16; (with_reducible refine (total_any _ l _ _ R0.out).mono ?_); rintro e w1 ⟨rfl, rfl⟩)
      | (go_at_call 16; (with_reducible refine (total_any _ m _ _ R1.out).mono ?_); rintro e w1 ⟨rfl, rfl⟩)
      | (go_at_call 14; (with_reducible refine (many_any _ l _ _ R0.out).mono ?_); rintro e w1 ⟨rfl, rfl⟩)
      | (go_at_call 14; (with_reducible refine (many_any _ m _ _ R1.out).mono ?_); rintro e w1 ⟨rfl, rfl⟩)
      | (go_at_call 12; (with_reducible refine (right_at _ _ D _ _ AL.out R2.out).mono ?_); rintro e w1 ⟨rfl, rfl⟩)
      | (go_at_call 16; (with_reducible refine (total_at _ _ D _ _ AL.out R2.out).mono ?_); rintro e w1 ⟨rfl, rfl⟩)
      | (go_at_call 14; (with_reducible refine (many_at _ _ D _ _ AL.out R2.out).mono ?_); rintro e w1 ⟨rfl, rfl⟩))
            all_goals go_ret
            all_goals exact ⟨rfl, HB⟩
          · rw [el] at tl
            rw [em] at tm
            have HL := Lib.hid hl
            have HM := Lib.hid hm
            have hs' : decide (l.sum ≤ 1073741824 - m.sum) = false := decide_eq_false (by omega)
            have HS := Lib.hid hs
            clear hs
            go_enter Try.func7, Try.ntmps7
            go_wp2_with (first
      | (go_at_call 8; (with_reducible refine (awake05 _).mono ?_); rintro e w1 ⟨rfl, hb⟩; replace R0 := Lib.hid (R0.out.below hb); replace R1 := Lib.hid (R1.out.below hb); replace HB := below_then' HB hb; clear hb)
      | (go_at_call 18; (with_reducible refine (add_made _ _ l m _ _ _ R0.out R1.out HL.out HM.out).mono ?_); rintro e w1 ⟨_, hn, hb⟩; obtain rfl := hn (by have := HS.out; omega); replace R0 := Lib.hid (R0.out.below hb); replace R1 := Lib.hid (R1.out.below hb); replace HB := below_then' HB hb; clear hb hn)
      | (go_at_call 12; (with_reducible refine (right_any _ l _ _ R0.out).mono ?_); rintro e w1 ⟨rfl, rfl⟩)
      | (go_at_call 12; (with_reducible refine (right_any _ m _ _ R1.out).mono ?_); rintro e w1 ⟨rfl, rfl⟩)
      | (go_at_call 16; (with_reducible refine (total_any _ l _ _ R0.out).mono ?_); rintro e w1 ⟨rfl, rfl⟩)
      | (go_at_call 16; (with_reducible refine (total_any _ m _ _ R1.out).mono ?_); rintro e w1 ⟨rfl, rfl⟩)
      | (go_at_call 14; (with_reducible refine (many_any _ l _ _ R0.out).mono ?_); rintro e w1 ⟨rfl, rfl⟩)
      | (go_at_call 14; (with_reducible refine (many_any _ m _ _ R1.out).mono ?_); rintro e w1 ⟨rfl, rfl⟩))
            go_ret
            exact ⟨rfl, HB⟩
    · go_enter Try.func7, Try.ntmps7
      go_wp2_with (first
      | (go_at_call 8; (with_reducible refine (awake05 _).mono ?_); rintro e w1 ⟨rfl, hb⟩; replace R0 := Lib.hid (R0.out.below hb); replace R1 := Lib.hid (R1.out.below hb); replace HB := below_then' HB hb; clear hb))
      go_ret
      exact ⟨rfl, HB⟩
  · go_enter Try.func7, Try.ntmps7
    go_wp2_with (first
      | (go_at_call 8; (with_reducible refine (awake05 _).mono ?_); rintro e w1 ⟨rfl, hb⟩; replace R0 := Lib.hid (R0.out.below hb); replace R1 := Lib.hid (R1.out.below hb); replace HB := below_then' HB hb; clear hb))
    go_ret
    exact ⟨rfl, HB⟩
set_option maxHeartbeats 1000000 in
set_option maxRecDepth 20000 in
theorem joins_walk (a : Option Addr) (len cap : Nat) (zs : List Int) (b : Option Addr) (len2 cap2 : Nat) (zs2 : List Int) (w : World) (h : IsRow .u8 w a len cap zs) (y : len * 1 ≤ 140737488351232) (h' : IsRow .u8 w b len2 cap2 zs2) (y' : len2 * 1 ≤ 140737488351232) :
    Calls Try.prog 6 #[.slice a len cap, .slice b len2 cap2] w fun e w' => e = .returned (.bool true) ∧ Below w.heap.size w w' := by
  obtain ⟨l, rfl, hr, _, hwf⟩ := h.reads (by omega)
  obtain ⟨m, rfl, hq, _, hwf2⟩ := h'.reads (by omega)
  have R0 := Lib.hid hr
  have R1 := Lib.hid hq
  have BL := Lib.hid (show BytesOk l from wf_u8 hwf)
  have BM := Lib.hid (show BytesOk m from wf_u8 hwf2)
  have HB := Below.refl w.heap.size w
  clear h h' y y' hr hq hwf hwf2
  by_cases hsz : l.length ≤ 200
  · by_cases hsz2 : m.length ≤ 200
    · obtain ⟨f1, f2, f3, f4, f5, f6, f7, f8, f9⟩ := joins_facts l m BL.out BM.out (by omega)
      have AL := Lib.hid (cnt_len (l ++ m))
      have F1 := Lib.hid f1
      have F2 := Lib.hid f2
      have F3 := Lib.hid f3
      have F4 := Lib.hid f4
      have F5 := Lib.hid f5
      have F8 := Lib.hid f8
      have F9 := Lib.hid f9
      have CL := Lib.hid (cnt_len l)
      have CM := Lib.hid (cnt_len m)
      clear f1 f2 f3 f4 f5 f8 f9
      generalize hD : cnt (l ++ m) = D at f6 f7 AL F4 F5
      have HD := Lib.hid hD
      have EQ := eqL_self D
      clear hD
      generalize hE1 : cnt l = E1 at F1 F3 F4 CL
      have HE1 := Lib.hid hE1
      clear hE1
      generalize hE2 : cnt m = E2 at F2 F3 F4 CM
      have HE2 := Lib.hid hE2
      clear hE2
      have S1 := Lib.hid trivial
      have S2 := Lib.hid trivial
      have S3 := Lib.hid trivial
      have S4 := Lib.hid trivial
      have T1 := Lib.hid trivial
      have T2 := Lib.hid trivial
      have T3 := Lib.hid trivial
      have U1 := Lib.hid trivial
      go_enter Try.func6, Try.ntmps6
      go_wp2_with (first
        | (go_at_call 8; (with_reducible refine (awake05 _).mono ?_); rintro e w1 ⟨rfl, hb⟩; replace R0 := Lib.hid (R0.out.below hb); replace R1 := Lib.hid (R1.out.below hb); replace HB := below_then' HB hb; clear hb)
        | (at_builtin; clear S1; refine print_append_row (w0 := w1) w1.heap.size rfl (.tmp 20) (.tmp 21) 22 5 .u8 1 rfl Try.underlying22 info_u8 (by omega) _ [] l _ _ _ rfl rfl (own_lit _ w1.heap.size 5 .u8 [] (Nat.le_refl _) (by simp)) (R0.out.below ((Below.refl _ _).alloc (Nat.le_refl _) _)) ((Below.refl _ _).alloc (Nat.le_refl _) _) (by simp) (by simp; omega) ?_; intro va wa oa ba hx1 hx2; clear hx1 hx2; rw [List.nil_append] at oa; have OA := Lib.hid oa; have BA := Lib.hid ba; clear oa ba)
        | (at_builtin; clear S2; refine print_append_row (w0 := w1) w1.heap.size rfl (.tmp 22) (.tmp 23) 22 5 .u8 1 rfl Try.underlying22 info_u8 (by omega) va l m _ _ _ rfl rfl OA.out (R1.out.below BA.out) BA.out BA.out.size (by omega) ?_; intro va wa oa ba hx1 hx2; clear hx1 hx2; rw [List.length_append] at oa; obtain ⟨A2, c2, rfl, hle2, hr2⟩ := own_reads' oa; have RA := Lib.hid hr2; replace R0 := Lib.hid (R0.out.below ba); replace R1 := Lib.hid (R1.out.below ba); replace HB := below_then' HB ba; clear oa ba OA BA hr2)
        | (go_at_call 10; clear T1; (with_reducible refine (of_at _ _ (l ++ m) _ _ (List.length_append) RA.out F8.out).mono ?_); rintro e w1 ⟨v, rfl, ho, hb⟩; rw [HD.out] at ho; obtain ⟨A3, c3, rfl, hle3, hr3⟩ := own_reads' ho; have RX := Lib.hid hr3; replace R0 := Lib.hid (R0.out.below hb); replace R1 := Lib.hid (R1.out.below hb); replace HB := below_then' HB hb; clear hb ho hr3 RA)
        | (at_builtin; clear S3; refine print_append_row (w0 := w1) w1.heap.size rfl (.tmp 26) (.tmp 27) 22 5 .u8 1 rfl Try.underlying22 info_u8 (by omega) _ [] m _ _ _ rfl rfl (own_lit _ w1.heap.size 5 .u8 [] (Nat.le_refl _) (by simp)) (R1.out.below ((Below.refl _ _).alloc (Nat.le_refl _) _)) ((Below.refl _ _).alloc (Nat.le_refl _) _) (by simp) (by simp; omega) ?_; intro va wa oa ba hx1 hx2; clear hx1 hx2; rw [List.nil_append] at oa; have OA := Lib.hid oa; have BA := Lib.hid ba; clear oa ba)
        | (at_builtin; clear S4; refine print_append_row (w0 := w1) w1.heap.size rfl (.tmp 28) (.tmp 29) 22 5 .u8 1 rfl Try.underlying22 info_u8 (by omega) va m l _ _ _ rfl rfl OA.out (R0.out.below BA.out) BA.out BA.out.size (by omega) ?_; intro va wa oa ba hx1 hx2; clear hx1 hx2; rw [List.length_append] at oa; obtain ⟨A2, c2, rfl, hle2, hr2⟩ := own_reads' oa; have RB := Lib.hid hr2; replace R0 := Lib.hid (R0.out.below ba); replace R1 := Lib.hid (R1.out.below ba); replace RX := Lib.hid (RX.out.below ba); replace HB := below_then' HB ba; clear oa ba OA BA hr2)
        | (go_at_call 10; clear T2; (with_reducible refine (of_at _ _ (m ++ l) _ _ (List.length_append) RB.out F9.out).mono ?_); rintro e w1 ⟨v, rfl, ho, hb⟩; rw [F5.out] at ho; obtain ⟨A4, c4, rfl, hle4, hr4⟩ := own_reads' ho; have RY := Lib.hid hr4; replace R0 := Lib.hid (R0.out.below hb); replace R1 := Lib.hid (R1.out.below hb); replace RX := Lib.hid (RX.out.below hb); replace HB := below_then' HB hb; clear hb ho hr4 RB)
        | (go_at_call 10; clear T3; (with_reducible refine (of_any _ l _ _ R0.out BL.out).mono ?_); rintro e w1 ⟨v, rfl, ho, hb⟩; rw [HE1.out] at ho; obtain ⟨A5, c5, rfl, hle5, hr5⟩ := own_reads' ho; have RL := Lib.hid hr5; replace R1 := Lib.hid (R1.out.below hb); replace RX := Lib.hid (RX.out.below hb); replace RY := Lib.hid (RY.out.below hb); replace HB := below_then' HB hb; clear hb ho hr5)
        | (go_at_call 10; clear U1; (with_reducible refine (of_any _ m _ _ R1.out BM.out).mono ?_); rintro e w1 ⟨v, rfl, ho, hb⟩; rw [HE2.out] at ho; obtain ⟨A6, c6, rfl, hle6, hr6⟩ := own_reads' ho; have RM := Lib.hid hr6; replace RL := Lib.hid (RL.out.below hb); replace RX := Lib.hid (RX.out.below hb); replace RY := Lib.hid (RY.out.below hb); replace HB := below_then' HB hb; clear hb ho hr6)
        | (go_at_call 18; (with_reducible refine (add_at _ _ _ _ E1 E2 _ _ _ CL.out CM.out RL.out RM.out F1.out F2.out).mono ?_); rintro e w1 ⟨hy, _, hb⟩; obtain ⟨v, rfl, ho⟩ := hy F3.out; rw [F4.out] at ho; obtain ⟨A7, c7, rfl, hle7, hr7⟩ := own_reads' ho; have RS := Lib.hid hr7; replace RX := Lib.hid (RX.out.below hb); replace RY := Lib.hid (RY.out.below hb); replace HB := below_then' HB hb; clear hb hy ho hr7)
        | (go_at_call 9; (with_reducible refine (ints_at _ _ _ _ D D _ _ _ AL.out AL.out RX.out RS.out).mono ?_); rintro e w1 ⟨rfl, hb⟩; replace RX := Lib.hid (RX.out.below hb); replace RY := Lib.hid (RY.out.below hb); replace RS := Lib.hid (RS.out.below hb); replace HB := below_then' HB hb; clear hb)
        | (go_at_call 9; (with_reducible refine (ints_at _ _ _ _ D D _ _ _ AL.out AL.out RY.out RS.out).mono ?_); rintro e w1 ⟨rfl, hb⟩; replace RX := Lib.hid (RX.out.below hb); replace RY := Lib.hid (RY.out.below hb); replace RS := Lib.hid (RS.out.below hb); replace HB := below_then' HB hb; clear hb)
        | (go_at_call 16; (with_reducible refine (total_at _ _ D _ _ AL.out RX.out).mono ?_); rintro e w1 ⟨rfl, rfl⟩)
        | (go_at_call 12; (with_reducible refine (right_at _ _ D _ _ AL.out RX.out).mono ?_); rintro e w1 ⟨rfl, rfl⟩))
      go_ret
      exact ⟨rfl, HB⟩
    · go_enter Try.func6, Try.ntmps6
      go_wp2_with (first
        | (go_at_call 8; (with_reducible refine (awake05 _).mono ?_); rintro e w1 ⟨rfl, hb⟩; replace R0 := Lib.hid (R0.out.below hb); replace R1 := Lib.hid (R1.out.below hb); replace HB := below_then' HB hb; clear hb))
      go_ret
      exact ⟨rfl, HB⟩
  · go_enter Try.func6, Try.ntmps6
    go_wp2_with (first
      | (go_at_call 8; (with_reducible refine (awake05 _).mono ?_); rintro e w1 ⟨rfl, hb⟩; replace R0 := Lib.hid (R0.out.below hb); replace R1 := Lib.hid (R1.out.below hb); replace HB := below_then' HB hb; clear hb))
    go_ret
    exact ⟨rfl, HB⟩
end Go.Proofs.Yticnigpbipfiiaa
