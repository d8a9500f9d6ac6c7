/- The statements of the layer bitf: each law's walk, out of the contracts. -/
import Derived.Test.YtfdijffecgdjbaaRc
namespace Go.Proofs.Ytfdijffecgdjbaa
open Go.RowKit Go.Proofs.YtfdijffecgdjbaaW.PrintWords Go.Proofs.YtfdijffecgdjbaaW.PrintLast Go.Proofs.YtfdijffecgdjbaaW.PrintMore
attribute [local go_sem] max2_int min2_int max_two min_two max_three min_three max_four min_four
set_option linter.unusedSimpArgs false
set_option linter.unusedVariables false
theorem below_grown' {B : Nat} {w0 w w1 : World} {g : Nat} (h : Below B w0 w) (hg : w.grownBy w1 (some g)) (hB : B ≤ w.heap.size) (hgB : B ≤ g) : Below B w0 w1 :=
  h.grown hg hB (fun k e => by cases e; exact hgB)
/-- two readers, one of each kind -/
structure Two (w0 w : World) (g g2 : Nat) (bs : List Int) (t u : Nat) : Prop where
  R : IsR w g bs t
  Q : IsQ w g2 (bitsOf bs) u
  g0 : w0.heap.size ≤ g
  g1 : w0.heap.size ≤ g2
  B : Below w0.heap.size w0 w
theorem Two.ne {w0 w : World} {g g2 : Nat} {bs : List Int} {t u : Nat} (h : Two w0 w g g2 bs t u) : g ≠ g2 := h.R.ne_Q h.Q
theorem Two.stepR {w0 w w1 : World} {g g2 : Nat} {bs : List Int} {t t' u : Nat} (h : Two w0 w g g2 bs t u) (hI : IsR w1 g bs t') (hG : w.grownBy w1 (some g)) : Two w0 w1 g g2 bs t' u :=
  ⟨hI, h.Q.grown hG h.ne.symm h.R.noB, h.g0, h.g1, below_grown' h.B hG h.B.size h.g0⟩
theorem Two.stepQ {w0 w w1 : World} {g g2 : Nat} {bs : List Int} {t u u' : Nat} (h : Two w0 w g g2 bs t u) (hI : IsQ w1 g2 (bitsOf bs) u') (hG : w.grownBy w1 (some g2)) : Two w0 w1 g g2 bs t u' :=
  ⟨h.R.grown hG h.ne h.Q.noU8, hI, h.g0, h.g1, below_grown' h.B hG h.B.size h.g1⟩
theorem Two.stepB {w0 w w1 : World} {g g2 : Nat} {bs : List Int} {t u : Nat} (h : Two w0 w g g2 bs t u) (hb : Below w.heap.size w w1) : Two w0 w1 g g2 bs t u :=
  ⟨h.R.below hb, h.Q.below hb, h.g0, h.g1, below_then' h.B hb⟩
theorem qleft_bits (g : Nat) (bs : List Int) (t : Nat) (w : World) (h : IsQ w g (bitsOf bs) t) (ht : t ≤ 8 * bs.length) :
    Calls Try.prog 15 #[.pointer (some ⟨g, 0, none⟩)] w fun e w' => e = .returned (.int .i64 (8 * (bs.length : Int) - t)) ∧ IsQ w' g (bitsOf bs) t ∧ w.grownBy w' (some g) := by
  have h1 := qleft_at g (bitsOf bs) t w h (by rw [bitsOf_len]; exact ht)
  rw [show (((bitsOf bs).length : Nat) : Int) = 8 * (bs.length : Int) by rw [bitsOf_len]; omega] at h1
  exact h1
theorem le_alloc {w : World} {o : Obj} {g : Nat} (h : (w.alloc o).heap.size ≤ g) : w.heap.size ≤ g := by
  simp only [World.alloc, Array.size_push] at h; omega
theorem below_alloc_then {w w1 : World} {o : Obj} (h : Below (w.alloc o).heap.size (w.alloc o) w1) : Below w.heap.size w w1 := below_then' ((Below.refl _ _).alloc (Nat.le_refl _) _) h
theorem str7 : strOfNums [7] = ⟨#[7]⟩ := by rfl
set_option maxHeartbeats 2000000 in
theorem awake03 (w : World) :
    Calls Try.prog 7 #[] w fun e w' => e = .returned (.bool true) ∧ Below w.heap.size w w' := by
  have HOK := Lib.hid (show ∀ x, x ∈ [13, 7] → (0 : Int) ≤ x ∧ x ≤ 255 by decide)
  have E1 := Lib.hid (show numAt [13, 7] 0 3 = 5 by decide)
  have E2 := Lib.hid (show numAt [13, 7] 3 2 = 1 by decide)
  have E3 := Lib.hid (show padOk [13, 7] 5 = true by decide)
  have HN := Lib.hid (bnew_any (some ⟨w.heap.size, 0, none⟩) 2 [13, 7] 2 (w.alloc (.cells (nums .u8 [13, 7]).toArray 5)) rfl (lit_reads w .u8 5 [13, 7] (by simp)) (by omega) (by intro h; cases h))
  have S1 := Lib.hid trivial
  go_enter Try.func7, Try.ntmps7
  go_wp2_with (first
    | (go_at_call 8; (refine HN.out.mono ?_); rintro e w1 ⟨g, rfl, hg, hI, hb⟩; have HI := Lib.hid hI; have G0 := Lib.hid (le_alloc hg); have HB := Lib.hid (below_alloc_then hb); clear hI hg hb)
    | (go_at_call 12; clear S1; (refine (btake_ok _ [13, 7] 0 3 _ HI.out (by decide) (by decide) (by decide) HOK.out).mono ?_); rintro e w1 ⟨rfl, hI, hG⟩; rw [E1.out]; replace HB := Lib.hid (below_grown' HB.out hG HB.out.size G0.out); replace HI := Lib.hid hI; clear hI hG)
    | (go_at_call 12; (refine (btake_ok _ [13, 7] 3 2 _ HI.out (by decide) (by decide) (by decide) HOK.out).mono ?_); rintro e w1 ⟨rfl, hI, hG⟩; rw [E2.out]; replace HB := Lib.hid (below_grown' HB.out hG HB.out.size G0.out); replace HI := Lib.hid hI; clear hI hG)
    | (go_at_call 10; (with_reducible refine (bpad_yes _ [13, 7] 5 _ HI.out (by decide) (by decide) E3.out).mono ?_); rintro e w1 ⟨rfl, hI, hG⟩; replace HB := Lib.hid (below_grown' HB.out hG HB.out.size G0.out); replace HI := Lib.hid hI; clear hI hG)
    | (go_at_call 17; (with_reducible refine (brest_any _ [13, 7] 8 _ HI.out (by decide) (by decide)).mono ?_); rintro e w1 ⟨v, rfl, ho, hb⟩; obtain ⟨A1, c1, rfl, hle, hr⟩ := own_reads' ho; have HB1 := Lib.hid (below_then' HB.out hb); clear HB; have HB := HB1; clear HB1; replace HI := Lib.hid (HI.out.below hb); have es := string_of_reads (P := Try.prog) (src := 22) (dst := 9) (c := c1) Try.underlying22 Try.underlying5 Try.underlying9 (show ReadsInt _ .u8 A1 1 [7] from hr); rw [str7] at es; clear ho hb hr)
    | (go_at_call 14; (with_reducible refine (bleft_at _ [13, 7] 8 _ HI.out (by decide) (by decide)).mono ?_); rintro e w1 ⟨rfl, hI, hG⟩; replace HB := Lib.hid (below_grown' HB.out hG HB.out.size G0.out); clear hI hG))
  go_ret
  exact ⟨rfl, HB.out⟩
theorem drop_ok {l : List Int} (h : ∀ x, x ∈ l → 0 ≤ x ∧ x ≤ 255) (k : Nat) : ∀ x, x ∈ l.drop k → 0 ≤ x ∧ x ≤ 255 := fun x hx => h x (List.mem_of_mem_drop hx)
theorem reads_some {w : World} {k : IntKind} {ad : Addr} {n : Nat} {l : List Int} (h : ReadsInt w k (some ad) n l) (i : Nat) (hi : i < n) (wr : World) (hb : Below w.heap.size w wr) : wr.cell? (ad.add i) = some (.int k (l.getD i 0)) := by
  obtain ⟨ad', e, hc⟩ := reads_cell (h.below hb) i hi
  cases e
  exact hc
theorem IsRow.nil {k : IntKind} {w : World} {a : Option Addr} {len cap : Nat} {zs : List Int} (h : IsRow k w a len cap zs) : a = none → cap = 0 := by
  rcases h with ⟨rfl, rfl, rfl, rfl⟩ | ⟨x, rfl, _⟩
  · intro _; rfl
  · intro e; cases e
set_option maxHeartbeats 4000000 in
theorem plays_walk (a : Option Addr) (len cap : Nat) (zs : List Int) (b : Option Addr) (len2 cap2 : Nat) (zs2 : List Int) (w : World) (h : IsRow .u8 w a len cap zs) (y : len * 1 ≤ 140737488351232) (h' : IsRow .i64 w b len2 cap2 zs2) (y' : len2 * 8 ≤ 140737488351232) :
    Calls Try.prog 3 #[.slice a len cap, .slice b len2 cap2] w fun e w' => e = .returned (.bool true) ∧ Below w.heap.size w w' := by
  obtain ⟨l, rfl, hr, _, hwf⟩ := h.reads (by omega)
  obtain ⟨m, rfl, hq, _, hwf2⟩ := h'.reads (by omega)
  have R0 := Lib.hid hr
  have R1 := Lib.hid hq
  have BL := Lib.hid (show ∀ x, x ∈ l → 0 ≤ x ∧ x ≤ 255 from wf_u8 hwf)
  have BM := Lib.hid hwf2
  have NL := Lib.hid h.nil
  have HB := Lib.hid (Below.refl w.heap.size w)
  clear h h' hr hq hwf hwf2 y y'
  by_cases hs : l.length ≤ 200
  · by_cases hs2 : m.length ≤ 60
    · go_enter Try.func3, Try.ntmps3
      go_wp2_with (first
        | (go_at_call 7; (with_reducible refine (awake03 _).mono ?_); rintro e w1 ⟨rfl, hb⟩; replace R0 := Lib.hid (R0.out.below hb); replace HB := Lib.hid (below_then' HB.out hb); clear hb)
        | (go_at_call 8; (with_reducible refine (bnew_any _ _ l _ _ rfl R0.out (by omega) NL.out).mono ?_); rintro e w1 ⟨g, rfl, hg, hI, hb⟩; have HI := Lib.hid hI; have G0 := Lib.hid (Nat.le_trans HB.out.size hg); replace R0 := Lib.hid (R0.out.below hb); replace HB := Lib.hid (below_then' HB.out hb); clear hI hg hb)
        | (go_at_call 9; (with_reducible refine (qnew_any _ _ l _ _ rfl R0.out BL.out (by omega)).mono ?_); rintro e w1 ⟨g2, rfl, hg2, hQ, hb⟩; have T := Lib.hid (⟨HI.out.below hb, hQ, G0.out, Nat.le_trans HB.out.size hg2, below_then' HB.out hb⟩ : Two w _ g g2 l 0 0); clear HI G0 HB R0 hQ hg2 hb))
      go_loopg [8] m.length (fun k q wr => ∃ i t : Nat, i ≤ m.length ∧ k = m.length - i ∧ q = .int .i64 i ∧ t ≤ 8 * l.length ∧ Two w wr g g2 l t t)
      case atStart => exact ⟨0, 0, by omega, rfl, rfl, by omega, T.out⟩
      case round =>
        obtain ⟨i, t, hi, hk, rfl, ht, hT⟩ := hrel
        have HK := Lib.hid hk
        have HT := Lib.hid ht
        clear T
        have T := Lib.hid hT
        clear hk ht hT
        by_cases hi2 : i < m.length
        · have i1 : (i : Int) < (m.length : Int) := by omega
          have hR := R1.out.below T.out.B
          obtain ⟨ad, hA, hcell⟩ := reads_cell hR i hi2
          have hX : (-9223372036854775808 : Int) ≤ m.getD i 0 ∧ m.getD i 0 ≤ 9223372036854775807 := by
            rw [List.getD_eq_getElem?_getD, List.getElem?_eq_getElem hi2]; exact wf_i64 BM.out _ (List.getElem_mem hi2)
          subst hA
          clear hR
          have HCL := Lib.hid (fun wr hb => reads_some R1.out i hi2 wr hb)
          generalize m.getD i 0 = X at hcell hX HCL
          by_cases h2 : X = -2
          · have e2 : (X == -2) = true := by simp [h2]
            cases hp : padOk l t
            · have HP := Lib.hid hp
              clear hp h2
              go_wp2_with (first
                | (go_at_call 10; (with_reducible refine (bpad_no _ l _ _ T.out.R HT.out (by omega) HP.out).mono ?_); rintro e w1 ⟨rfl, hI, hG⟩; replace T := Lib.hid (T.out.stepR hI hG); clear hI hG)
                | (go_at_call 11; (with_reducible refine (qpad_no _ l _ _ T.out.Q HT.out BL.out HP.out).mono ?_); rintro e w1 ⟨rfl, hI, hG⟩; replace T := Lib.hid (T.out.stepQ hI hG); clear hI hG)
                | (go_at_call 14; (with_reducible refine (bleft_at _ l _ _ T.out.R HT.out (by omega)).mono ?_); rintro e w1 ⟨rfl, hI, hG⟩; replace T := Lib.hid (T.out.stepR hI hG); clear hI hG)
                | (go_at_call 15; (with_reducible refine (qleft_bits _ l _ _ T.out.Q HT.out).mono ?_); rintro e w1 ⟨rfl, hI, hG⟩; replace T := Lib.hid (T.out.stepQ hI hG); clear hI hG)
                | (go_at_call 17; (with_reducible refine (brest_any _ l _ _ T.out.R HT.out (by omega)).mono ?_); rintro e w1 ⟨v, rfl, ho, hb⟩; obtain ⟨A1, c1, rfl, _, hr⟩ := own_reads' ho; have P1 := Lib.hid hr; replace T := Lib.hid (T.out.stepB hb); clear ho hr hb)
                | (go_at_call 18; (with_reducible refine (qrest_any _ l _ _ T.out.Q HT.out BL.out (by omega)).mono ?_); rintro e w1 ⟨v, rfl, ho, hb⟩; obtain ⟨A2, c2, rfl, _, hr⟩ := own_reads' ho; have P2 := Lib.hid hr; replace P1 := Lib.hid (P1.out.below hb); replace T := Lib.hid (T.out.stepB hb); clear ho hr hb)
                | (go_at_call 16; (with_reducible refine (same_any _ _ _ _ _ _ _ _ _ P1.out P2.out (drop_ok BL.out _) (drop_ok BL.out _)).mono ?_); rintro e w1 ⟨rfl, rfl⟩; rw [eqB_self]; clear P1 P2))
              go_roundg (m.length - (i + 1))
              case measure => have := HK.out; omega
              case rel => exact ⟨i + 1, t, by omega, rfl, by go_num, HT.out, T.out⟩
            · have HP := Lib.hid hp
              clear hp h2
              go_wp2_with (first
                | (go_at_call 10; (with_reducible refine (bpad_yes _ l _ _ T.out.R HT.out (by omega) HP.out).mono ?_); rintro e w1 ⟨rfl, hI, hG⟩; replace T := Lib.hid (T.out.stepR hI hG); clear hI hG)
                | (go_at_call 11; (with_reducible refine (qpad_yes _ l _ _ T.out.Q HT.out BL.out HP.out).mono ?_); rintro e w1 ⟨rfl, hI, hG⟩; replace T := Lib.hid (T.out.stepQ hI hG); clear hI hG; replace HT := Lib.hid (show 8 * ((t + 7) / 8) ≤ 8 * l.length by have := HT.out; omega); generalize 8 * ((t + 7) / 8) = t2 at T HT)
                | (go_at_call 14; (with_reducible refine (bleft_at _ l _ _ T.out.R HT.out (by omega)).mono ?_); rintro e w1 ⟨rfl, hI, hG⟩; replace T := Lib.hid (T.out.stepR hI hG); clear hI hG)
                | (go_at_call 15; (with_reducible refine (qleft_bits _ l _ _ T.out.Q HT.out).mono ?_); rintro e w1 ⟨rfl, hI, hG⟩; replace T := Lib.hid (T.out.stepQ hI hG); clear hI hG)
                | (go_at_call 17; (with_reducible refine (brest_any _ l _ _ T.out.R HT.out (by omega)).mono ?_); rintro e w1 ⟨v, rfl, ho, hb⟩; obtain ⟨A1, c1, rfl, _, hr⟩ := own_reads' ho; have P1 := Lib.hid hr; replace T := Lib.hid (T.out.stepB hb); clear ho hr hb)
                | (go_at_call 18; (with_reducible refine (qrest_any _ l _ _ T.out.Q HT.out BL.out (by omega)).mono ?_); rintro e w1 ⟨v, rfl, ho, hb⟩; obtain ⟨A2, c2, rfl, _, hr⟩ := own_reads' ho; have P2 := Lib.hid hr; replace P1 := Lib.hid (P1.out.below hb); replace T := Lib.hid (T.out.stepB hb); clear ho hr hb)
                | (go_at_call 16; (with_reducible refine (same_any _ _ _ _ _ _ _ _ _ P1.out P2.out (drop_ok BL.out _) (drop_ok BL.out _)).mono ?_); rintro e w1 ⟨rfl, rfl⟩; rw [eqB_self]; clear P1 P2))
              go_roundg (m.length - (i + 1))
              case measure => have := HK.out; omega
              case rel => exact ⟨i + 1, _, by omega, rfl, by go_num, HT.out, T.out⟩
          · have e2 : (X == -2) = false := by simp [h2]
            by_cases hok : 0 ≤ X ∧ X ≤ 24 ∧ X ≤ 8 * (l.length : Int) - t
            · obtain ⟨N, rfl⟩ : ∃ N : Nat, X = N := ⟨X.toNat, by omega⟩
              have HN := Lib.hid (show t + N ≤ 8 * l.length by omega)
              have HN2 := Lib.hid (show N ≤ 24 by omega)
              clear hok h2
              go_wp2_with (first
                | (go_at_call 12; (with_reducible refine (btake_ok _ l _ N _ T.out.R HN.out HN2.out (by omega) BL.out).mono ?_); rintro e w1 ⟨rfl, hI, hG⟩; replace T := Lib.hid (T.out.stepR hI hG); clear hI hG hcell; have hcell := HCL.out _ T.out.B)
                | (go_at_call 13; (with_reducible refine (qtake_ok _ (bitsOf l) _ N _ T.out.Q (by rw [bitsOf_len]; exact HN.out) HN2.out).mono ?_); rintro e w1 ⟨rfl, hI, hG⟩; replace T := Lib.hid (T.out.stepQ hI hG); clear hI hG; rw [show numOf (((bitsOf l).drop t).take N) = numAt l t N from rfl]; replace HT := HN; generalize t + N = t2 at T HT; clear HN)
                | (go_at_call 14; (with_reducible refine (bleft_at _ l _ _ T.out.R HT.out (by omega)).mono ?_); rintro e w1 ⟨rfl, hI, hG⟩; replace T := Lib.hid (T.out.stepR hI hG); clear hI hG)
                | (go_at_call 15; (with_reducible refine (qleft_bits _ l _ _ T.out.Q HT.out).mono ?_); rintro e w1 ⟨rfl, hI, hG⟩; replace T := Lib.hid (T.out.stepQ hI hG); clear hI hG)
                | (go_at_call 17; (with_reducible refine (brest_any _ l _ _ T.out.R HT.out (by omega)).mono ?_); rintro e w1 ⟨v, rfl, ho, hb⟩; obtain ⟨A1, c1, rfl, _, hr⟩ := own_reads' ho; have P1 := Lib.hid hr; replace T := Lib.hid (T.out.stepB hb); clear ho hr hb)
                | (go_at_call 18; (with_reducible refine (qrest_any _ l _ _ T.out.Q HT.out BL.out (by omega)).mono ?_); rintro e w1 ⟨v, rfl, ho, hb⟩; obtain ⟨A2, c2, rfl, _, hr⟩ := own_reads' ho; have P2 := Lib.hid hr; replace P1 := Lib.hid (P1.out.below hb); replace T := Lib.hid (T.out.stepB hb); clear ho hr hb)
                | (go_at_call 16; (with_reducible refine (same_any _ _ _ _ _ _ _ _ _ P1.out P2.out (drop_ok BL.out _) (drop_ok BL.out _)).mono ?_); rintro e w1 ⟨rfl, rfl⟩; rw [eqB_self]; clear P1 P2))
              go_roundg (m.length - (i + 1))
              case measure => have := HK.out; omega
              case rel => exact ⟨i + 1, _, by omega, rfl, by go_num, HT.out, T.out⟩
            · have HN := Lib.hid (show X < 0 ∨ (0 ≤ X ∧ (24 < X ∨ (X ≤ 24 ∧ 8 * (l.length : Int) - t < X))) by omega)
              clear hok h2
              go_wp2_with (first
                | (go_at_call 12; (with_reducible refine (btake_no _ l _ X _ T.out.R HT.out (by omega) HN.out).mono ?_); rintro e w1 ⟨rfl, hI, hG⟩; replace T := Lib.hid (T.out.stepR hI hG); clear hI hG hcell; have hcell := HCL.out _ T.out.B)
                | (go_at_call 13; (with_reducible refine (qtake_no _ (bitsOf l) _ X _ T.out.Q (by rw [bitsOf_len]; exact HT.out) (by rw [bitsOf_len]; have := HN.out; omega)).mono ?_); rintro e w1 ⟨rfl, hI, hG⟩; replace T := Lib.hid (T.out.stepQ hI hG); clear hI hG)
                | (go_at_call 14; (with_reducible refine (bleft_at _ l _ _ T.out.R HT.out (by omega)).mono ?_); rintro e w1 ⟨rfl, hI, hG⟩; replace T := Lib.hid (T.out.stepR hI hG); clear hI hG)
                | (go_at_call 15; (with_reducible refine (qleft_bits _ l _ _ T.out.Q HT.out).mono ?_); rintro e w1 ⟨rfl, hI, hG⟩; replace T := Lib.hid (T.out.stepQ hI hG); clear hI hG)
                | (go_at_call 17; (with_reducible refine (brest_any _ l _ _ T.out.R HT.out (by omega)).mono ?_); rintro e w1 ⟨v, rfl, ho, hb⟩; obtain ⟨A1, c1, rfl, _, hr⟩ := own_reads' ho; have P1 := Lib.hid hr; replace T := Lib.hid (T.out.stepB hb); clear ho hr hb)
                | (go_at_call 18; (with_reducible refine (qrest_any _ l _ _ T.out.Q HT.out BL.out (by omega)).mono ?_); rintro e w1 ⟨v, rfl, ho, hb⟩; obtain ⟨A2, c2, rfl, _, hr⟩ := own_reads' ho; have P2 := Lib.hid hr; replace P1 := Lib.hid (P1.out.below hb); replace T := Lib.hid (T.out.stepB hb); clear ho hr hb)
                | (go_at_call 16; (with_reducible refine (same_any _ _ _ _ _ _ _ _ _ P1.out P2.out (drop_ok BL.out _) (drop_ok BL.out _)).mono ?_); rintro e w1 ⟨rfl, rfl⟩; rw [eqB_self]; clear P1 P2))
              go_roundg (m.length - (i + 1))
              case measure => have := HK.out; omega
              case rel => exact ⟨i + 1, t, by omega, rfl, by go_num, HT.out, T.out⟩
        · have i1 : ¬ (i : Int) < (m.length : Int) := by omega
          go_wp2_with (first
            | (go_at_call 14; (with_reducible refine (bleft_at _ l _ _ T.out.R HT.out (by omega)).mono ?_); rintro e w1 ⟨rfl, hI, hG⟩; replace T := Lib.hid (T.out.stepR hI hG); clear hI hG)
            | (go_at_call 15; (with_reducible refine (qleft_bits _ l _ _ T.out.Q HT.out).mono ?_); rintro e w1 ⟨rfl, hI, hG⟩; replace T := Lib.hid (T.out.stepQ hI hG); clear hI hG)
            | (go_at_call 17; (with_reducible refine (brest_any _ l _ _ T.out.R HT.out (by omega)).mono ?_); rintro e w1 ⟨v, rfl, ho, hb⟩; obtain ⟨A1, c1, rfl, _, hr⟩ := own_reads' ho; have P1 := Lib.hid hr; replace T := Lib.hid (T.out.stepB hb); clear ho hr hb)
            | (go_at_call 18; (with_reducible refine (qrest_any _ l _ _ T.out.Q HT.out BL.out (by omega)).mono ?_); rintro e w1 ⟨v, rfl, ho, hb⟩; obtain ⟨A2, c2, rfl, _, hr⟩ := own_reads' ho; have P2 := Lib.hid hr; replace P1 := Lib.hid (P1.out.below hb); replace T := Lib.hid (T.out.stepB hb); clear ho hr hb)
            | (go_at_call 16; (with_reducible refine (same_any _ _ _ _ _ _ _ _ _ P1.out P2.out (drop_ok BL.out _) (drop_ok BL.out _)).mono ?_); rintro e w1 ⟨rfl, rfl⟩; rw [eqB_self]; clear P1 P2))
          go_ret
          exact ⟨rfl, T.out.B⟩
    · go_enter Try.func3, Try.ntmps3
      go_wp2_with (first
        | (go_at_call 7; (with_reducible refine (awake03 _).mono ?_); rintro e w1 ⟨rfl, hb⟩; replace HB := Lib.hid (below_then' HB.out hb); clear hb))
      go_ret
      exact ⟨rfl, HB.out⟩
  · go_enter Try.func3, Try.ntmps3
    go_wp2_with (first
      | (go_at_call 7; (with_reducible refine (awake03 _).mono ?_); rintro e w1 ⟨rfl, hb⟩; replace HB := Lib.hid (below_then' HB.out hb); clear hb))
    go_ret
    exact ⟨rfl, HB.out⟩
end Go.Proofs.Ytfdijffecgdjbaa
