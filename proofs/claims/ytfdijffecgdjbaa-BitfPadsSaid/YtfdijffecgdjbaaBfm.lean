/- The statements of the layer bitf: BitfSplits. -/
import Derived.Test.YtfdijffecgdjbaaBfl
namespace Go.Proofs.Ytfdijffecgdjbaa
open Go.RowKit Go.Proofs.YtfdijffecgdjbaaW.PrintWords Go.Proofs.YtfdijffecgdjbaaW.PrintLast Go.Proofs.YtfdijffecgdjbaaW.PrintMore
attribute [local go_sem] max2_int min2_int max_two min_two max_three min_three max_four min_four
set_option linter.unusedSimpArgs false
set_option linter.unusedVariables false
theorem take_split {α : Type} (l : List α) (c k : Nat) (hc : c ≤ k) : l.take k = l.take c ++ (l.drop c).take (k - c) := by
  rw [← List.take_append_drop c (l.take k), List.take_take, Nat.min_eq_left hc, List.drop_take]
theorem numAt_add (bs : List Int) (t c k : Nat) (hc : c ≤ k) (h : t + k ≤ 8 * bs.length) : numAt bs t k = numAt bs t c + numAt bs (t + c) (k - c) * pw c := by
  unfold numAt
  have e : ((bitsOf bs).drop t).take k = ((bitsOf bs).drop t).take c ++ ((bitsOf bs).drop (t + c)).take (k - c) := by
    rw [take_split _ c k hc, List.drop_drop]
  rw [e, numOf_append]
  have hl : (((bitsOf bs).drop t).take c).length = c := by rw [List.length_take, List.length_drop, bitsOf_len]; omega
  rw [hl, Int.mul_comm (pw c)]
theorem or_shift (a b : Int) (c k : Nat) (hc : c ≤ k) (hk : k ≤ 24) (ha0 : 0 ≤ a) (ha : a < pw c) (hb0 : 0 ≤ b) (hb : b < pw (k - c)) : bits .or .u32 (b * 2 ^ c % 4294967296) a = a + b * pw c := by
  obtain ⟨x, rfl⟩ := Int.eq_ofNat_of_zero_le ha0
  obtain ⟨y, rfl⟩ := Int.eq_ofNat_of_zero_le hb0
  have hx : x < 2 ^ c := by unfold pw at ha; omega
  have hy : y < 2 ^ (k - c) := by unfold pw at hb; omega
  have h24 : (2 : Nat) ^ k ≤ 16777216 := by
    have := Nat.pow_le_pow_right (n := 2) (by omega) hk
    simpa using this
  have hck : (2 : Nat) ^ c ≤ 2 ^ k := Nat.pow_le_pow_right (by omega) hc
  have hm : 2 ^ c * y < 2 ^ k := by
    have e : (2 : Nat) ^ k = 2 ^ c * 2 ^ (k - c) := by rw [← Nat.pow_add]; congr 1; omega
    rw [e]
    exact Nat.mul_lt_mul_of_pos_left hy (Nat.two_pow_pos c)
  have e1 : (y : Int) * pw c = ((2 ^ c * y : Nat) : Int) := by unfold pw; rw [Int.natCast_mul, Int.mul_comm]
  have e32 : (2 : Nat) ^ 32 = 4294967296 := by decide
  rw [pow_pw, e1, Int.emod_eq_of_lt (by omega) (by omega), (bits_nat .u32 32 (by decide) wraps_u32 (2 ^ c * y) x (by omega) (by omega)).2, ← Nat.two_pow_add_eq_or_of_lt hx y]
  omega
theorem split_eq (bs : List Int) (t C K D : Nat) (h1 : C ≤ K) (h2 : K = C + D) (h3 : K ≤ 24) (h4 : t + K ≤ 8 * bs.length) : bits .or .u32 (numAt bs (t + C) D * 2 ^ C % 4294967296) (numAt bs t C) = numAt bs t K := by
  subst h2
  have a := numAt_bd bs t C
  have b := numAt_bd bs (t + C) D
  rw [numAt_add bs t C (C + D) (by omega) h4, show C + D - C = D by omega]
  exact or_shift _ _ C (C + D) (by omega) h3 a.1 a.2 b.1 (by rw [show C + D - C = D by omega]; exact b.2)
/-- two readers of the library -/
structure TwoR (w0 w : World) (g g2 : Nat) (bs : List Int) (t u : Nat) : Prop where
  R : IsR w g bs t
  Q : IsR w g2 bs u
  ne : g ≠ g2
  g0 : w0.heap.size ≤ g
  g1 : w0.heap.size ≤ g2
  B : Below w0.heap.size w0 w
theorem TwoR.stepR {w0 w w1 : World} {g g2 : Nat} {bs : List Int} {t t' u : Nat} (h : TwoR w0 w g g2 bs t u) (hI : IsR w1 g bs t') (hG : w.grownBy w1 (some g)) : TwoR w0 w1 g g2 bs t' u :=
  ⟨hI, h.Q.grown hG h.ne.symm h.R.noU8, h.ne, h.g0, h.g1, below_grown' h.B hG h.B.size h.g0⟩
theorem TwoR.stepQ {w0 w w1 : World} {g g2 : Nat} {bs : List Int} {t u u' : Nat} (h : TwoR w0 w g g2 bs t u) (hI : IsR w1 g2 bs u') (hG : w.grownBy w1 (some g2)) : TwoR w0 w1 g g2 bs t u' :=
  ⟨h.R.grown hG h.ne h.Q.noU8, hI, h.ne, h.g0, h.g1, below_grown' h.B hG h.B.size h.g1⟩
set_option maxHeartbeats 4000000 in
theorem splits_walk (a : Option Addr) (len cap : Nat) (zs : List Int) (ah n at_ : Int) (w : World) (h : IsRow .u8 w a len cap zs) (y : len * 1 ≤ 140737488351232) (hv1 : (Lit.int .u8 ah).wf = true) (hv2 : (Lit.int .u8 n).wf = true) (hv3 : (Lit.int .u8 at_).wf = true) :
    Calls Try.prog 4 #[.slice a len cap, .int .u8 ah, .int .u8 n, .int .u8 at_] w fun e w' => e = .returned (.bool true) ∧ Below w.heap.size w w' := by
  obtain ⟨l, rfl, hr, _, hwf⟩ := h.reads (by omega)
  have R0 := Lib.hid hr
  have BL := Lib.hid (show ∀ x, x ∈ l → 0 ≤ x ∧ x ≤ 255 from wf_u8 hwf)
  have NL := Lib.hid h.nil
  have HB := Lib.hid (Below.refl w.heap.size w)
  have v1 := bounds_u8 hv1
  have v2 := bounds_u8 hv2
  have v3 := bounds_u8 hv3
  obtain ⟨A0, rfl⟩ : ∃ V : Nat, ah = V := ⟨ah.toNat, by omega⟩
  obtain ⟨N0, rfl⟩ : ∃ V : Nat, n = V := ⟨n.toNat, by omega⟩
  obtain ⟨M0, rfl⟩ : ∃ V : Nat, at_ = V := ⟨at_.toNat, by omega⟩
  clear h hr hwf y hv1 hv2 hv3
  have S1 := Lib.hid trivial
  by_cases hs : l.length ≤ 200
  · go_enter Try.func4, Try.ntmps4
    go_wp2_with (first
      | (go_at_call 7; (with_reducible refine (awake03 _).mono ?_); rintro e w1 ⟨rfl, hb⟩; replace R0 := Lib.hid (R0.out.below hb); replace HB := Lib.hid (below_then' HB.out hb); clear hb)
      | (go_at_call 8; clear S1; (with_reducible refine (bnew_any _ _ l _ _ rfl R0.out (by omega) NL.out).mono ?_); rintro e w1 ⟨g, rfl, hg, hI, hb⟩; have HI := Lib.hid hI; have G0 := Lib.hid (Nat.le_trans HB.out.size hg); replace R0 := Lib.hid (R0.out.below hb); replace HB := Lib.hid (below_then' HB.out hb); clear hI hg hb)
      | (go_at_call 8; (with_reducible refine (bnew_any _ _ l _ _ rfl R0.out (by omega) NL.out).mono ?_); rintro e w1 ⟨g2, rfl, hg2, hQ, hb⟩; have T := Lib.hid (⟨HI.out.below hb, hQ, Nat.ne_of_lt (Nat.lt_of_lt_of_le HI.out.lt hg2), G0.out, Nat.le_trans HB.out.size hg2, below_then' HB.out hb⟩ : TwoR w _ g g2 l 0 0); clear HI G0 HB R0 hQ hg2 hb))
    obtain ⟨K, eK⟩ : ∃ K : Nat, (N0 : Int) % 25 = K := ⟨N0 % 25, by omega⟩
    obtain ⟨A, eA⟩ : ∃ A : Nat, (A0 : Int) % 25 = A := ⟨A0 % 25, by omega⟩
    rw [eK, eA]
    obtain ⟨C, eC⟩ : ∃ C : Nat, (M0 : Int) % ((K : Int) + 1) = C := ⟨M0 % (K + 1), by simp⟩
    have hCK : C ≤ K := by
      have := Int.emod_lt_of_pos (M0 : Int) (show (0 : Int) < (K : Int) + 1 by omega)
      omega
    rw [eC]
    have hK : K ≤ 24 := by omega
    have hA : A ≤ 24 := by omega
    have HA2 := Lib.hid hA
    have EA := Lib.hid eA
    clear eK eA eC v2 v3
    obtain ⟨D, hKD⟩ : ∃ D, K = C + D := ⟨K - C, by omega⟩
    have eD := Lib.hid (show (K : Int) - (C : Int) = (D : Int) by omega)
    have S2 := Lib.hid trivial
    have S3 := Lib.hid trivial
    have S4 := Lib.hid trivial
    have S5 := Lib.hid trivial
    by_cases ha : A ≤ 8 * l.length
    · have HA := Lib.hid (show 0 + A ≤ 8 * l.length by omega)
      have HT := Lib.hid ha
      obtain ⟨t, ht⟩ : ∃ t, t = A := ⟨A, rfl⟩
      have HTA := Lib.hid ht
      have iA : t ≤ 8 * l.length := by omega
      rw [← ht] at HT
      clear ht
      by_cases hk : t + K ≤ 8 * l.length
      · have HK := Lib.hid hk
        have HK2 := Lib.hid hK
        have HC := Lib.hid (show t + C ≤ 8 * l.length by omega)
        have HC2 := Lib.hid (show C ≤ 24 by omega)
        have HD := Lib.hid (show t + C + D ≤ 8 * l.length by omega)
        have HD2 := Lib.hid (show D ≤ 24 by omega)
        have HCD := Lib.hid (show t + C + D = t + K by omega)
        have EO := Lib.hid (split_eq l t C K D hCK hKD hK hk)
        have i1 : ¬ 8 * (l.length : Int) - (t : Int) < (K : Int) := by omega
        have i2 : 0 ≤ 8 * (l.length : Int) - (t : Int) := by omega
        have iC : (C : Int) ≤ (K : Int) := by omega
        clear hk hKD hCK
        go_wp2_with (first
          | (go_at_call 12; clear S2; (with_reducible refine (btake_ok g l 0 A _ T.out.R HA.out HA2.out (by omega) BL.out).mono ?_); rintro e w1 ⟨rfl, hI, hG⟩; replace T := Lib.hid (T.out.stepR hI hG); clear hI hG; rw [Nat.zero_add, ← HTA.out] at T)
          | (go_at_call 12; clear S3; rw [EA.out]; (with_reducible refine (btake_ok g2 l 0 A _ T.out.Q HA.out HA2.out (by omega) BL.out).mono ?_); rintro e w1 ⟨rfl, hI, hG⟩; replace T := Lib.hid (T.out.stepQ hI hG); clear hI hG; rw [Nat.zero_add, ← HTA.out] at T)
          | (go_at_call 14; (with_reducible refine (bleft_at g l _ _ T.out.R (by first | exact HT.out | exact HK.out) (by omega)).mono ?_); rintro e w1 ⟨rfl, hI, hG⟩; replace T := Lib.hid (T.out.stepR hI hG); clear hI hG)
          | (go_at_call 14; (with_reducible refine (bleft_at g2 l _ _ T.out.Q (by exact HK.out) (by omega)).mono ?_); rintro e w1 ⟨rfl, hI, hG⟩; replace T := Lib.hid (T.out.stepQ hI hG); clear hI hG)
          | (go_at_call 12; clear S4; (with_reducible refine (btake_ok g l t K _ T.out.R HK.out HK2.out (by omega) BL.out).mono ?_); rintro e w1 ⟨rfl, hI, hG⟩; replace T := Lib.hid (T.out.stepR hI hG); clear hI hG)
          | (go_at_call 12; clear S5; (with_reducible refine (btake_ok g2 l t C _ T.out.Q HC.out HC2.out (by omega) BL.out).mono ?_); rintro e w1 ⟨rfl, hI, hG⟩; replace T := Lib.hid (T.out.stepQ hI hG); clear hI hG)
          | (go_at_call 12; rw [eD.out]; (with_reducible refine (btake_ok g2 l (t + C) D _ T.out.Q HD.out HD2.out (by omega) BL.out).mono ?_); rintro e w1 ⟨rfl, hI, hG⟩; replace T := Lib.hid (T.out.stepQ hI hG); clear hI hG; rw [HCD.out] at T; have HO := EO.out; generalize numAt l t K = X at HO ⊢; generalize numAt l t C = Y at HO ⊢; generalize numAt l (t + C) D = Z at HO ⊢))
        go_ret
        exact ⟨rfl, T.out.B⟩
      · have i1 : 8 * (l.length : Int) - (t : Int) < (K : Int) := by omega
        have iC : (C : Int) ≤ (K : Int) := by omega
        clear hk hKD hCK
        go_wp2_with (first
          | (go_at_call 12; clear S2; (with_reducible refine (btake_ok g l 0 A _ T.out.R HA.out HA2.out (by omega) BL.out).mono ?_); rintro e w1 ⟨rfl, hI, hG⟩; replace T := Lib.hid (T.out.stepR hI hG); clear hI hG; rw [Nat.zero_add, ← HTA.out] at T)
          | (go_at_call 12; clear S3; rw [EA.out]; (with_reducible refine (btake_ok g2 l 0 A _ T.out.Q HA.out HA2.out (by omega) BL.out).mono ?_); rintro e w1 ⟨rfl, hI, hG⟩; replace T := Lib.hid (T.out.stepQ hI hG); clear hI hG; rw [Nat.zero_add, ← HTA.out] at T)
          | (go_at_call 14; (with_reducible refine (bleft_at g l _ _ T.out.R (by first | exact HT.out | exact HK.out) (by omega)).mono ?_); rintro e w1 ⟨rfl, hI, hG⟩; replace T := Lib.hid (T.out.stepR hI hG); clear hI hG))
        go_ret
        exact ⟨rfl, T.out.B⟩
    · have HA := Lib.hid (show (A : Int) < 0 ∨ (0 ≤ (A : Int) ∧ (24 < (A : Int) ∨ ((A : Int) ≤ 24 ∧ 8 * (l.length : Int) - (0 : Nat) < (A : Int)))) by omega)
      have HT := Lib.hid (Nat.zero_le (8 * l.length))
      obtain ⟨t, ht⟩ : ∃ t, t = 0 := ⟨0, rfl⟩
      have HT0 := Lib.hid ht.symm
      rw [← ht] at HT
      have iA : t ≤ 8 * l.length := by omega
      clear ht
      by_cases hk : t + K ≤ 8 * l.length
      · have HK := Lib.hid hk
        have HK2 := Lib.hid hK
        have HC := Lib.hid (show t + C ≤ 8 * l.length by omega)
        have HC2 := Lib.hid (show C ≤ 24 by omega)
        have HD := Lib.hid (show t + C + D ≤ 8 * l.length by omega)
        have HD2 := Lib.hid (show D ≤ 24 by omega)
        have HCD := Lib.hid (show t + C + D = t + K by omega)
        have EO := Lib.hid (split_eq l t C K D hCK hKD hK hk)
        have i1 : ¬ 8 * (l.length : Int) - (t : Int) < (K : Int) := by omega
        have i2 : 0 ≤ 8 * (l.length : Int) - (t : Int) := by omega
        have iC : (C : Int) ≤ (K : Int) := by omega
        clear hk hKD hCK
        go_wp2_with (first
          | (go_at_call 12; clear S2; (with_reducible refine (btake_no g l 0 (A : Int) _ T.out.R (Nat.zero_le _) (by omega) HA.out).mono ?_); rintro e w1 ⟨rfl, hI, hG⟩; replace T := Lib.hid (T.out.stepR hI hG); clear hI hG)
          | (go_at_call 12; clear S3; rw [EA.out]; (with_reducible refine (btake_no g2 l 0 (A : Int) _ T.out.Q (Nat.zero_le _) (by omega) HA.out).mono ?_); rintro e w1 ⟨rfl, hI, hG⟩; replace T := Lib.hid (T.out.stepQ hI hG); clear hI hG; rw [HT0.out] at T)
          | (go_at_call 14; (with_reducible refine (bleft_at g l _ _ T.out.R (by first | exact HT.out | exact HK.out) (by omega)).mono ?_); rintro e w1 ⟨rfl, hI, hG⟩; replace T := Lib.hid (T.out.stepR hI hG); clear hI hG)
          | (go_at_call 14; (with_reducible refine (bleft_at g2 l _ _ T.out.Q (by exact HK.out) (by omega)).mono ?_); rintro e w1 ⟨rfl, hI, hG⟩; replace T := Lib.hid (T.out.stepQ hI hG); clear hI hG)
          | (go_at_call 12; clear S4; (with_reducible refine (btake_ok g l t K _ T.out.R HK.out HK2.out (by omega) BL.out).mono ?_); rintro e w1 ⟨rfl, hI, hG⟩; replace T := Lib.hid (T.out.stepR hI hG); clear hI hG)
          | (go_at_call 12; clear S5; (with_reducible refine (btake_ok g2 l t C _ T.out.Q HC.out HC2.out (by omega) BL.out).mono ?_); rintro e w1 ⟨rfl, hI, hG⟩; replace T := Lib.hid (T.out.stepQ hI hG); clear hI hG)
          | (go_at_call 12; rw [eD.out]; (with_reducible refine (btake_ok g2 l (t + C) D _ T.out.Q HD.out HD2.out (by omega) BL.out).mono ?_); rintro e w1 ⟨rfl, hI, hG⟩; replace T := Lib.hid (T.out.stepQ hI hG); clear hI hG; rw [HCD.out] at T; have HO := EO.out; generalize numAt l t K = X at HO ⊢; generalize numAt l t C = Y at HO ⊢; generalize numAt l (t + C) D = Z at HO ⊢))
        go_ret
        exact ⟨rfl, T.out.B⟩
      · have i1 : 8 * (l.length : Int) - (t : Int) < (K : Int) := by omega
        have iC : (C : Int) ≤ (K : Int) := by omega
        clear hk hKD hCK
        go_wp2_with (first
          | (go_at_call 12; clear S2; (with_reducible refine (btake_no g l 0 (A : Int) _ T.out.R (Nat.zero_le _) (by omega) HA.out).mono ?_); rintro e w1 ⟨rfl, hI, hG⟩; replace T := Lib.hid (T.out.stepR hI hG); clear hI hG)
          | (go_at_call 12; clear S3; rw [EA.out]; (with_reducible refine (btake_no g2 l 0 (A : Int) _ T.out.Q (Nat.zero_le _) (by omega) HA.out).mono ?_); rintro e w1 ⟨rfl, hI, hG⟩; replace T := Lib.hid (T.out.stepQ hI hG); clear hI hG; rw [HT0.out] at T)
          | (go_at_call 14; (with_reducible refine (bleft_at g l _ _ T.out.R (by first | exact HT.out | exact HK.out) (by omega)).mono ?_); rintro e w1 ⟨rfl, hI, hG⟩; replace T := Lib.hid (T.out.stepR hI hG); clear hI hG))
        go_ret
        exact ⟨rfl, T.out.B⟩
  · go_enter Try.func4, Try.ntmps4
    go_wp2_with (first
      | (go_at_call 7; (with_reducible refine (awake03 _).mono ?_); rintro e w1 ⟨rfl, hb⟩; replace HB := Lib.hid (below_then' HB.out hb); clear hb))
    go_ret
    exact ⟨rfl, HB.out⟩
end Go.Proofs.Ytfdijffecgdjbaa
