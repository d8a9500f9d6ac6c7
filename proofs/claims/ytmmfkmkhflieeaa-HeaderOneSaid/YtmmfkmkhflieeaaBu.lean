/- Contracts of the layer budget and of its reference: what is put, what is taken. -/
import Derived.Test.YtmmfkmkhflieeaaBw
import Derived.Test.YtmmfkmkhflieeaaLw
import Derived.Test.YtmmfkmkhflieeaaEv
import Derived.Test.YtmmfkmkhflieeaaPPrx3
import Derived.Test.YtmmfkmkhflieeaaPPrx5
namespace Go.Proofs.Ytmmfkmkhflieeaa
open Go.RowKit Go.Proofs.YtmmfkmkhflieeaaW.PrintWords Go.Proofs.YtmmfkmkhflieeaaW.PrintLast Go.Proofs.YtmmfkmkhflieeaaW.PrintMore PPr
attribute [local go_sem] max2_int min2_int max_two min_two max_three min_three max_four min_four
set_option linter.unusedSimpArgs false
set_option linter.unusedVariables false
/-- may a number be put -/
def canB (v left : Int) : Prop := 1 ≤ left ∧ left ≤ 4096 ∧ 0 ≤ v ∧ v ≤ left
instance (v left : Int) : Decidable (canB v left) := by unfold canB; exact inferInstance
def widN (left : Int) : Nat := (wid left).toNat
theorem widN_bd {left : Int} (h0 : 1 ≤ left) (h1 : left ≤ 4096) : wid left = (widN left : Int) ∧ 1 ≤ widN left ∧ widN left ≤ 13 ∧ left < p2 (widN left) ∧ p2 (widN left - 1) ≤ left := by
  obtain ⟨a, b, c⟩ := wid_spec left h0 (by omega)
  have hw := wid_bd left
  unfold widN
  have h : (wid left).toNat - 1 < 13 := by
    refine p2_lt (Int.lt_of_le_of_lt (show p2 ((wid left).toNat - 1) ≤ 4096 from ?_) (by decide))
    rw [show (wid left).toNat - 1 = (wid left - 1).toNat by omega]; omega
  refine ⟨by omega, by omega, by omega, c, ?_⟩
  rw [show (wid left).toNat - 1 = (wid left - 1).toNat by omega]; exact b
def costZ (v left : Int) : Int := if canB v left then wid left else 0
theorem cost_f (v left : Int) (hl : left ≤ 9223372036854775807) : budget_Cost.f v left = some (costZ v left) := by
  unfold budget_Cost.f budget_within_int.f logs_Width.f costZ
  by_cases h1 : left ≥ 1
  · rw [if_pos h1, Option.bind_some]
    by_cases h2 : left ≤ 4096
    · rw [if_pos (decide_eq_true h2)]
      by_cases h3 : v ≥ 0
      · rw [if_pos h3, Option.bind_some]
        by_cases h4 : v ≤ left
        · rw [if_pos (decide_eq_true h4), if_pos ⟨by omega, by omega⟩, if_pos (show canB v left from ⟨h1, h2, h3, h4⟩)]; rfl
        · rw [if_neg (by simpa using h4), if_neg (fun h : canB v left => h4 h.2.2.2)]
      · rw [if_neg h3, Option.bind_some, if_neg (by decide), if_neg (fun h : canB v left => h3 h.2.2.1)]
    · rw [if_neg (by simpa using h2), if_neg (fun h : canB v left => h2 h.2.1)]
  · rw [if_neg h1, Option.bind_some, if_neg (by decide), if_neg (fun h : canB v left => h1 h.1)]
theorem cost_any (v left : Int) (w : World) (hl : left ≤ 9223372036854775807) : Calls Try.prog 48 #[.int .i64 v, .int .i64 left] w fun e w' => e = .returned (.int .i64 (costZ v left)) ∧ Below w.heap.size w w' :=
  budget_Cost.calls v left _ w (cost_f v left hl)
set_option maxHeartbeats 400000 in
theorem buput_yes (g : Nat) (bs : List Bool) (v left : Int) (w : World) (F : Nat → Prop) (h : (wrO g bs).P w F) (hm : bs.length ≤ 100000000000) (hc : canB v left) :
    Calls Try.prog 30 #[.pointer (some ⟨g, 0, none⟩), .int .i64 v, .int .i64 left] w fun e w' => e = .returned (.bool true) ∧ Turn (wrO g bs) (wrO g (bs ++ bitsN v (widN left))) F w w' := by
  have HP := Lib.hid h
  obtain ⟨c1, c2, c3, c4⟩ := id hc
  obtain ⟨b1, b2, b3, _, _⟩ := widN_bd c1 c2
  have HC := Lib.hid (cost_any v left)
  have HW := Lib.hid (wput_ok g bs v (widN left))
  have hcz : costZ v left = (widN left : Int) := by unfold costZ; rw [if_pos hc, b1]
  rw [hcz] at HC
  have q1 : (0 : Int) < (widN left : Int) := by omega
  have hv : v % 4294967296 = v := by omega
  have HVE := Lib.hid hv
  clear h hc hcz b1
  generalize widN left = N at *
  go_enter Try.func30, Try.ntmps30
  go_wp2_with (first
    | (go_at_call 48; (with_reducible refine (HC.out _ (by omega)).mono ?_); rintro e w1 ⟨rfl, hb⟩; have HB := Lib.hid hb; clear hb)
    | (go_at_call 49; (with_reducible refine (HW.out _ F ((wrO g bs).loc HP.out (fun k hk => HB.out.block k ((wrO g bs).lt HP.out k hk))) hm (by omega) (by omega) (by omega)).mono ?_); rintro e w2 ⟨rfl, ht⟩; have HT := Lib.hid ht; clear ht))
  go_ret
  exact ⟨rfl, Turn.then_ (o := wrO g bs) (Chg.of_below HB.out F) (fun k h => .inl h) HT.out⟩
set_option maxHeartbeats 400000 in
theorem buput_no (g : Nat) (v left : Int) (w : World) (hl : left ≤ 9223372036854775807) (hc : ¬ canB v left) :
    Calls Try.prog 30 #[.pointer (some ⟨g, 0, none⟩), .int .i64 v, .int .i64 left] w fun e w' => e = .returned (.bool false) ∧ Below w.heap.size w w' := by
  have HC := Lib.hid (cost_any v left)
  have hcz : costZ v left = 0 := by unfold costZ; rw [if_neg hc]
  rw [hcz] at HC
  clear hc hcz
  go_enter Try.func30, Try.ntmps30
  go_wp2_with (go_at_call 48; (with_reducible refine (HC.out _ hl).mono ?_); rintro e w1 ⟨rfl, hb⟩; have HB := Lib.hid hb; clear hb)
  go_ret
  exact ⟨rfl, HB.out⟩
/-! what is taken -/
def butk (N t : Nat) (num : Int) (left : Int) : Int × Int × Nat :=
  if 1 ≤ left ∧ left ≤ 4096 then
    if t + widN left ≤ N then
      if num ≤ left then (num, 0, t + widN left) else (0, 13, t + widN left)
    else (0, 3, t)
  else (0, 1, t)
theorem within_f (x a b : Int) : budget_within_int.f x a b = some (decide (a ≤ x ∧ x ≤ b)) := by
  unfold budget_within_int.f
  by_cases h : x ≥ a
  · rw [if_pos h]; congr 1; rw [Bool.eq_iff_iff, decide_eq_true_iff, decide_eq_true_iff]; omega
  · rw [if_neg h]; congr 1; rw [eq_comm, decide_eq_false_iff_not]; omega
theorem within_any (x a b : Int) (w : World) : Calls Try.prog 64 #[.int .i64 x, .int .i64 a, .int .i64 b] w fun e w' => e = .returned (.bool (decide (a ≤ x ∧ x ≤ b))) ∧ ∃ n, w' = w.drewN n :=
  (budget_within_int.calls x a b _ w (within_f x a b)).mono fun e w' ⟨h1, h2⟩ => ⟨h1, by obtain ⟨n, h⟩ := h2; exact ⟨n, h⟩⟩
set_option maxHeartbeats 800000 in
theorem butake_any {A : Option Addr} {c : Nat} (g : Nat) (l : List Int) (t : Nat) (left : Int) (w : World) (h : IsR A c w g l t) (ht : t ≤ 8 * l.length) (hm : l.length ≤ 140737488351232) (hok : ∀ x, x ∈ l → 0 ≤ x ∧ x ≤ 255) (hl0 : -9223372036854775808 ≤ left) (hl1 : left ≤ 9223372036854775807) :
    Calls Try.prog 56 #[.pointer (some ⟨g, 0, none⟩), .int .i64 left] w fun e w' => e = .returned (.tuple #[.int .i64 (butk (8 * l.length) t (numAt l t (widN left)) left).1, .int .i64 (butk (8 * l.length) t (numAt l t (widN left)) left).2.1]) ∧ IsR A c w' g l (butk (8 * l.length) t (numAt l t (widN left)) left).2.2 ∧ w.grownBy w' (some g) := by
  have HI := Lib.hid h
  have HOK := Lib.hid hok
  clear h hok
  have HWI := Lib.hid (within_any left 1 4096)
  by_cases h1 : 1 ≤ left ∧ left ≤ 4096
  · obtain ⟨b1, b2, b3, _, _⟩ := widN_bd h1.1 h1.2
    rw [decide_eq_true h1] at HWI
    have HWD := Lib.hid (fun w => (width_any left w (by omega) (by omega)))
    rw [b1] at HWD
    by_cases h2 : t + widN left ≤ 8 * l.length
    · have HTK := Lib.hid (btake_ok (A := A) (c := c) g l t (widN left))
      have hnb := numAt_bd l t (widN left)
      have hpw := pw_mono b3
      rw [show pw 13 = 8192 from by decide] at hpw
      have HWI2 := Lib.hid (within_any (numAt l t (widN left)) 0 left)
      by_cases h3 : numAt l t (widN left) ≤ left
      · have e : butk (8 * l.length) t (numAt l t (widN left)) left = (numAt l t (widN left), 0, t + widN left) := by unfold butk; rw [if_pos h1, if_pos h2, if_pos h3]
        rw [e]
        rw [decide_eq_true ⟨hnb.1, h3⟩] at HWI2
        have H2 := Lib.hid h2
        have HN := Lib.hid hnb
        clear e h2 b1
        generalize widN left = n at *
        generalize numAt l t n = x at *
        have hx : IntKind.i64.wrap x = x := IntWalk.i64_in _ (by omega)
        have hnz : (n : Int) = (n : Int) := rfl
        go_enter Try.func56, Try.ntmps56
        go_wp2_with (first
          | (go_at_call 64; (with_reducible refine (HWI.out _).mono ?_); rintro e w1 ⟨rfl, nq, rfl⟩)
          | (go_at_call 65; (with_reducible refine (HWD.out _).mono ?_); rintro e w1 ⟨rfl, rfl⟩)
          | (go_at_call 67; (with_reducible refine (HTK.out _ (HI.out.below (below_drewN' (Below.refl _ _) _)) H2.out (by omega) hm HOK.out).mono ?_); rintro e w1 ⟨rfl, hI, hG⟩; have HI2 := Lib.hid hI; have HG := Lib.hid hG; clear hI hG)
          | (go_at_call 64; (with_reducible refine (HWI2.out _).mono ?_); rintro e w1 ⟨rfl, nq, rfl⟩))
        go_ret2
        exact ⟨rfl, HI2.out.below (below_drewN' (Below.refl _ _) _), grown_drewN ((grown_drewN (World.grownBy.refl w _) _).trans HG.out) _⟩
      · have e : butk (8 * l.length) t (numAt l t (widN left)) left = (0, 13, t + widN left) := by unfold butk; rw [if_pos h1, if_pos h2, if_neg h3]
        rw [e]
        rw [decide_eq_false (fun h => h3 h.2)] at HWI2
        have H2 := Lib.hid h2
        have HN := Lib.hid hnb
        clear e h2 b1
        generalize widN left = n at *
        generalize numAt l t n = x at *
        have hx : IntKind.i64.wrap x = x := IntWalk.i64_in _ (by omega)
        go_enter Try.func56, Try.ntmps56
        go_wp2_with (first
          | (go_at_call 64; (with_reducible refine (HWI.out _).mono ?_); rintro e w1 ⟨rfl, nq, rfl⟩)
          | (go_at_call 65; (with_reducible refine (HWD.out _).mono ?_); rintro e w1 ⟨rfl, rfl⟩)
          | (go_at_call 67; (with_reducible refine (HTK.out _ (HI.out.below (below_drewN' (Below.refl _ _) _)) H2.out (by omega) hm HOK.out).mono ?_); rintro e w1 ⟨rfl, hI, hG⟩; have HI2 := Lib.hid hI; have HG := Lib.hid hG; clear hI hG)
          | (go_at_call 64; (with_reducible refine (HWI2.out _).mono ?_); rintro e w1 ⟨rfl, nq, rfl⟩))
        go_ret2
        exact ⟨rfl, HI2.out.below (below_drewN' (Below.refl _ _) _), grown_drewN ((grown_drewN (World.grownBy.refl w _) _).trans HG.out) _⟩
    · have e : butk (8 * l.length) t (numAt l t (widN left)) left = (0, 3, t) := by unfold butk; rw [if_pos h1, if_neg h2]
      rw [e]
      have HTK := Lib.hid (btake_no (A := A) (c := c) g l t (widN left : Int))
      have H2 := Lib.hid (show (widN left : Int) < 0 ∨ (0 ≤ (widN left : Int) ∧ (24 < (widN left : Int) ∨ ((widN left : Int) ≤ 24 ∧ 8 * (l.length : Int) - t < (widN left : Int)))) by omega)
      clear e h2 b1
      generalize widN left = n at *
      go_enter Try.func56, Try.ntmps56
      go_wp2_with (first
        | (go_at_call 64; (with_reducible refine (HWI.out _).mono ?_); rintro e w1 ⟨rfl, nq, rfl⟩)
        | (go_at_call 65; (with_reducible refine (HWD.out _).mono ?_); rintro e w1 ⟨rfl, rfl⟩)
        | (go_at_call 67; (with_reducible refine (HTK.out _ (HI.out.below (below_drewN' (Below.refl _ _) _)) ht hm H2.out).mono ?_); rintro e w1 ⟨rfl, hI, hG⟩; have HI2 := Lib.hid hI; have HG := Lib.hid hG; clear hI hG))
      go_ret2
      exact ⟨rfl, HI2.out, (grown_drewN (World.grownBy.refl w _) _).trans HG.out⟩
  · have e : butk (8 * l.length) t (numAt l t (widN left)) left = (0, 1, t) := by unfold butk; rw [if_neg h1]
    rw [e]
    rw [decide_eq_false h1] at HWI
    clear e
    go_enter Try.func56, Try.ntmps56
    go_wp2_with (go_at_call 64; (with_reducible refine (HWI.out _).mono ?_); rintro e w1 ⟨rfl, nq, rfl⟩)
    go_ret2
    exact ⟨rfl, HI.out.below (below_drewN' (Below.refl _ _) _), grown_drewN (World.grownBy.refl w _) _⟩
theorem rdO_butake (g : Nat) (l : List Int) (t : Nat) (left : Int) (w : World) (F : Nat → Prop) (h : (rdO g l t).P w F) (ht : t ≤ 8 * l.length) (hm : l.length ≤ 140737488351232) (hok : ∀ x, x ∈ l → 0 ≤ x ∧ x ≤ 255) (hl0 : -9223372036854775808 ≤ left) (hl1 : left ≤ 9223372036854775807) :
    Calls Try.prog 56 #[.pointer (some ⟨g, 0, none⟩), .int .i64 left] w fun e w' => e = .returned (.tuple #[.int .i64 (butk (8 * l.length) t (numAt l t (widN left)) left).1, .int .i64 (butk (8 * l.length) t (numAt l t (widN left)) left).2.1]) ∧ Turn (rdO g l t) (rdO g l (butk (8 * l.length) t (numAt l t (widN left)) left).2.2) F w w' := by
  obtain ⟨A, c, hI, rfl⟩ := h
  exact (butake_any g l t left w hI ht hm hok hl0 hl1).mono fun e w' ⟨h1, h2, h3⟩ => ⟨h1, rdO_turn h2 h3⟩
end Go.Proofs.Ytmmfkmkhflieeaa
