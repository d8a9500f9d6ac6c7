/- Normalized counts in plain: of a log, and those that the statements make. What the printed functions of the layer ctx, and of its reference, come to. A model in plain: what the printed functions of the layer model come to: Right, At, Fits; Zero and First. A model in plain: what the printed functions of the document's answer for the layer model come to. The layer model's laws: ModelTells, out of the printed functions. -/
import Derived.Test.YtcffmmdgjifaaaaPm
import Derived.Test.YtcffmmdgjifaaaaLw
import Derived.Test.YtcffmmdgjifaaaaPh
import Derived.Test.YtcffmmdgjifaaaaCw
import Derived.Test.YtcffmmdgjifaaaaYMore
import Derived.Test.YtcffmmdgjifaaaaPPrx2
import Derived.Test.YtcffmmdgjifaaaaPPrx9
import Derived.Test.YtcffmmdgjifaaaaPPrx7
import Derived.Test.YtcffmmdgjifaaaaPPrx8
import Derived.Test.YtcffmmdgjifaaaaPPrx16
import Derived.Test.YtcffmmdgjifaaaaMd
import Derived.Test.YtcffmmdgjifaaaaPPrx13
import Derived.Test.YtcffmmdgjifaaaaPPrx15
import Derived.Test.YtcffmmdgjifaaaaPPrx17
import Derived.Test.YtcffmmdgjifaaaaPPrx18
namespace Go.Proofs.Ytcffmmdgjifaaaa
open Go.RowKit Go.Proofs.YtcffmmdgjifaaaaW.PrintWords Go.Proofs.YtcffmmdgjifaaaaW.PrintMore PPr
set_option linter.unusedSimpArgs false
set_option linter.unusedVariables false
theorem getD_pos_take (q : List Int) (hl : q.length = 256) (hn : ∀ x, x ∈ q → 0 ≤ x) (s : Nat) : 0 ≤ q.getD s 0 ∧ q.getD s 0 ≤ q.sum := by
  rcases Nat.lt_or_ge s q.length with h | h
  · have h0 := hn _ (getD_memE h)
    have h1 := sum_take_le hn (s + 1)
    rw [take_snocE q s h, List.sum_append] at h1
    have h2 := sum_nonneg (l := q.take s) (fun x hx => hn x (List.mem_of_mem_take hx))
    simp only [List.sum_cons, List.sum_nil] at h1
    omega
  · have : q.getD s 0 = 0 := by rw [List.getD_eq_getElem?_getD, List.getElem?_eq_none h]; rfl
    rw [this]
    exact ⟨Int.le_refl _, sum_nonneg hn⟩
/-- normalized counts, of a log -/
structure IsN (q : List Int) (r : Nat) : Prop where
  r0 : 1 ≤ r
  r1 : r ≤ 12
  R : rightB q = true
  sm : q.sum = 2 ^ r
theorem pow_nat (r : Nat) (h0 : 1 ≤ r) (h : r ≤ 12) : 2 ≤ (2 : Int) ^ r ∧ (2 : Int) ^ r ≤ 4096 := by
  have := pow_bd r (by omega) (by omega)
  rwa [Int.toNat_natCast] at this
theorem lg_spec (t : Int) : ∀ d i, 1 ≤ i → i + d = 13 → (∃ r, i ≤ r ∧ r ≤ 12 ∧ t = 2 ^ r ∧ lg t d i = ((r : Int), true)) ∨ (lg t d i = (0, false))
  | 0, i, _, _ => .inr rfl
  | d + 1, i, h, hd => by
    rw [lg]
    by_cases ht : t = 2 ^ i
    · rw [if_pos ht]; exact .inl ⟨i, Nat.le_refl _, by omega, ht, rfl⟩
    · rw [if_neg ht]
      rcases lg_spec t d (i + 1) (by omega) (by omega) with ⟨r, h1, h2, h3, h4⟩ | h1
      · exact .inl ⟨r, by omega, h2, h3, h4⟩
      · exact .inr h1
/-- a list is normalized counts, or of no log -/
theorem isN_or (q : List Int) : (∃ r, IsN q r ∧ lg (totZ q) 12 1 = ((r : Int), true)) ∨ lg (totZ q) 12 1 = (0, false) := by
  rcases lg_spec (totZ q) 12 1 (by omega) (by omega) with ⟨r, h1, h2, h3, h4⟩ | h
  · refine .inl ⟨r, ?_, h4⟩
    have hp := pow_nat r h1 h2
    unfold totZ at h3
    by_cases hr : rightB q = true
    · rw [if_pos hr] at h3; exact ⟨h1, h2, hr, h3⟩
    · rw [if_neg hr] at h3; omega
  · exact .inr h
theorem IsN.lg {q : List Int} {r : Nat} (h : IsN q r) : lg (totZ q) 12 1 = ((r : Int), true) := by
  have := lg_hit r (by have := h.r0; omega) (by have := h.r1; omega)
  rw [Int.toNat_natCast] at this
  unfold totZ
  rw [if_pos h.R, h.sm]; exact this
end Go.Proofs.Ytcffmmdgjifaaaa
namespace Go.Proofs.Ytcffmmdgjifaaaa
open Go.RowKit Go.Proofs.YtcffmmdgjifaaaaW.PrintWords Go.Proofs.YtcffmmdgjifaaaaW.PrintMore PPr
set_option linter.unusedSimpArgs false
set_option linter.unusedVariables false
def atZ (l : List Int) (a : Int) : Int := if 0 ≤ a ∧ a < (l.length : Int) then ctxAt l a.toNat else -1
def forZ (l : List Int) (c : Int) : List Int := cnt (pickTo l c l.length)
def presZ (l : List Int) : List Int := presTo (metTo l l.length) 256
theorem forZ_len (l : List Int) (c : Int) : (forZ l c).length = 256 := cnt_len _
theorem at_ev (l : List Int) (hok : BytesOk l) (hm : l.length ≤ 1099511627776) (a : Int) (h0 : -9223372036854775808 ≤ a) (h1 : a ≤ 9223372036854775807) : Ev (fun k => ctx_At.f k l a) (atZ l a) := by
  unfold ctx_At.f atZ
  by_cases hn : a < 0
  · rw [if_neg (show ¬ (0 ≤ a ∧ a < (l.length : Int)) by omega)]
    exact ev_pos hn (Ev.step (fun _ => by rw [ctx_At.j0]) (ev_pos rfl (Ev.now _)))
  · refine ev_neg hn (Ev.step (fun _ => by rw [ctx_At.j0]) ?_)
    by_cases h2 : a ≥ (l.length : Int)
    · rw [if_neg (show ¬ (0 ≤ a ∧ a < (l.length : Int)) by omega)]
      exact ev_pos (decide_eq_true h2) (Ev.now _)
    · rw [if_pos (show 0 ≤ a ∧ a < (l.length : Int) by omega)]
      refine ev_neg (by rw [decide_eq_false h2]; simp) ?_
      unfold ctxAt
      by_cases h3 : a = 0
      · rw [if_pos (show a.toNat = 0 by omega)]; exact ev_pos h3 (Ev.now _)
      · rw [if_neg (show ¬ a.toNat = 0 by omega)]
        refine ev_neg h3 ?_
        rw [w64' (x := a - 1) rfl (by omega) (by omega)]
        refine ev_pos (by omega) (ev_pos (by omega) (ev_eq (Ev.now _) ?_))
        have hb := hok.at (a.toNat - 1) (by omega)
        rw [show rd l (a - 1) = l.getD (a.toNat - 1) 0 by unfold rd; rw [show (a - 1).toNat = a.toNat - 1 by omega]]
        exact w64' rfl (by omega) (by omega)
theorem rat_eq (l : List Int) (hok : BytesOk l) (hm : l.length ≤ 1099511627776) (a : Int) : puncheonref06_At.f l a = some (atZ l a) := by
  unfold puncheonref06_At.f atZ
  by_cases hn : a < 0
  · rw [if_pos hn, if_neg (by omega)]
  · rw [if_neg hn]
    by_cases h2 : a ≥ (l.length : Int)
    · rw [if_pos h2, if_neg (by omega)]
    · rw [if_neg h2, if_pos (show 0 ≤ a ∧ a < (l.length : Int) by omega)]
      simp only [Option.bind_some]
      rw [if_pos (by simp; omega)]
      rw [if_pos (by omega), if_pos (by simp; omega)]
      congr 1
      unfold rd ctxAt
      by_cases h3 : a.toNat = 0
      · rw [if_pos h3, h3]; exact w64' rfl (by decide) (by decide)
      · rw [if_neg h3]
        obtain ⟨j, hj⟩ : ∃ j, a.toNat = j + 1 := ⟨a.toNat - 1, by omega⟩
        have hb := hok.at j (by omega)
        rw [hj]
        simp only [List.singleton_append, List.getD_cons_succ, Nat.add_sub_cancel]
        exact w64' rfl (by omega) (by omega)
theorem rat_nat (l : List Int) (hok : BytesOk l) (hm : l.length ≤ 1099511627776) (i : Nat) (hi : i < l.length) : puncheonref06_At.f l (i : Int) = some (ctxAt l i) := by
  rw [rat_eq l hok hm, atZ, if_pos (by omega)]; rfl
theorem for_eq (l : List Int) (hok : BytesOk l) (hm : l.length ≤ 1099511627776) (c : Int) : ctx_For.f l c = some (forZ l c) := by
  unfold ctx_For.f; rw [if_pos ((okBytes_iff l).2 ⟨hm, hok⟩)]; rfl
theorem pres_eq (l : List Int) (hok : BytesOk l) (hm : l.length ≤ 1099511627776) : ctx_Present.f l = some (presZ l) := by
  unfold ctx_Present.f; rw [if_pos ((okBytes_iff l).2 ⟨hm, hok⟩)]; rfl
/-- the widest of the contexts below k -/
def widTo (l : List Int) : Nat → Int
  | 0 => 0
  | k + 1 => mx (widTo l k) (manyZ (forZ l (k : Int)))
theorem mx_le_left (a b : Int) : a ≤ mx a b := by unfold mx; split <;> omega
theorem mx_le_right (a b : Int) : b ≤ mx a b := by unfold mx; split <;> omega
theorem mx_le (a b c : Int) (h : a ≤ c) (k : b ≤ c) : mx a b ≤ c := by unfold mx; split <;> omega
theorem widTo_bd (l : List Int) : ∀ k, 0 ≤ widTo l k ∧ widTo l k ≤ 256
  | 0 => by simp [widTo]
  | k + 1 => by
    have h1 := widTo_bd l k
    have h2 := manyZ_bd (forZ l (k : Int))
    have h3 := mx_le_left (widTo l k) (manyZ (forZ l (k : Int)))
    have h4 := mx_le _ _ 256 h1.2 h2.2
    rw [widTo]; omega
theorem pick_none (l : List Int) (c : Int) : ∀ i, (∀ j, j < i → ¬ ctxAt l j = c) → pickTo l c i = []
  | 0, _ => rfl
  | i + 1, h => by rw [pickTo_miss l c i (h i (by omega)), pick_none l c i (fun j hj => h j (by omega))]
theorem many_nil : manyZ (cnt []) = 0 := by decide +kernel
theorem miss_many {l : List Int} (hok : BytesOk l) (c : Nat) (hc : c < 256) (h : (metTo l l.length).getD c false = false) : manyZ (forZ l (c : Int)) = 0 := by
  rw [metTo_get hok l.length (Nat.le_refl _) c hc, List.any_eq_false] at h
  unfold forZ
  rw [pick_none l c l.length (fun j hj => by simpa using h j (List.mem_range.2 hj))]
  exact many_nil
theorem wid_fold {l : List Int} (hok : BytesOk l) : ∀ k, k ≤ 256 → (presTo (metTo l l.length) k).foldl (fun a c => mx a (manyZ (forZ l c))) 0 = widTo l k
  | 0, _ => rfl
  | k + 1, hk => by
    cases hb : (metTo l l.length).getD k false with
    | true => rw [presTo_hit _ k hb, List.foldl_append, wid_fold hok k (by omega), List.foldl_cons, List.foldl_nil, widTo]
    | false =>
      rw [presTo_miss _ k hb, wid_fold hok k (by omega), widTo, miss_many hok k (by omega) hb]
      have := widTo_bd l k
      unfold mx; split <;> omega
theorem wid_from (l : List Int) (hok : BytesOk l) (hm : l.length ≤ 1099511627776) (p : List Int) (hp : p.length ≤ 256) : ∀ (d i : Nat), i + d = p.length → Ev (fun k => ctx_Widest.l0 k l ((p.take i).foldl (fun a c => mx a (manyZ (forZ l c))) 0) p (p.length : Int) (i : Int)) (p.foldl (fun a c => mx a (manyZ (forZ l c))) 0)
  | 0, i, hd => by
    refine Ev.step (fun _ => by rw [ctx_Widest.l0]) (ev_neg (by omega) ?_)
    rw [List.take_of_length_le (by omega)]
    exact Ev.now _
  | d + 1, i, hd => by
    refine Ev.step (fun _ => by rw [ctx_Widest.l0]) (ev_pos (by omega) (ev_pos (by omega) (ev_pos (by omega) ?_)))
    rw [rd_nat]
    refine ev_obind (for_eq l hok hm (p.getD i 0)) (Ev.bind (many_ev (forZ l (p.getD i 0)) (by rw [forZ_len]; omega)) ?_)
    have hs : (p.take (i + 1)).foldl (fun a c => mx a (manyZ (forZ l c))) 0 = mx ((p.take i).foldl (fun a c => mx a (manyZ (forZ l c))) 0) (manyZ (forZ l (p.getD i 0))) := by
      rw [take_snocE p i (by omega), List.foldl_append, List.foldl_cons, List.foldl_nil]
    rw [wnext i (by omega), ← hs]
    exact wid_from l hok hm p hp d (i + 1) (by omega)
theorem wid_ev (l : List Int) (hok : BytesOk l) (hm : l.length ≤ 1099511627776) : Ev (fun k => ctx_Widest.f k l) (widTo l 256) := by
  unfold ctx_Widest.f
  refine ev_obind (pres_eq l hok hm) ?_
  have hp := presTo_len (metTo l l.length) 256
  have h := wid_from l hok hm (presZ l) hp _ 0 (Nat.zero_add _)
  rw [show (presZ l).foldl (fun a c => mx a (manyZ (forZ l c))) 0 = widTo l 256 from wid_fold hok 256 (by omega)] at h
  exact h
end Go.Proofs.Ytcffmmdgjifaaaa
namespace Go.Proofs.Ytcffmmdgjifaaaa
open Go.RowKit Go.Proofs.YtcffmmdgjifaaaaW.PrintWords Go.Proofs.YtcffmmdgjifaaaaW.PrintLast Go.Proofs.YtcffmmdgjifaaaaW.PrintMore PPr
set_option linter.unusedSimpArgs false
set_option linter.unusedVariables false
theorem awake16 : Ev (fun k => puncheonlaw16_awake.f k) true := Ev.of (fun k => puncheonlaw16_awake.mono k) (k := 300) (by decide +kernel)
theorem u8s {l : List Int} (h : ∀ x ∈ l, (Lit.int .u8 x).wf = true) : BytesOk l := fun x hx => bounds_u8 (h x hx)
def nrB (q : List Int) (a : Int) : Bool := if (lg (totZ q) 12 1).2 = true then (lg (totZ q) 12 1).1 == a else false
theorem nrB_iff (q : List Int) (a : Int) : nrB q a = true ↔ ∃ r : Nat, a = (r : Int) ∧ IsN q r := by
  unfold nrB
  rcases isN_or q with ⟨r, hN, hlg⟩ | hlg
  · rw [hlg]
    simp only [if_true, beq_iff_eq]
    refine ⟨fun h => ⟨r, h.symm, hN⟩, ?_⟩
    rintro ⟨r', rfl, hN'⟩
    have := hN'.lg
    rw [hlg] at this
    injection this with this
  · rw [hlg]
    simp only [Bool.false_eq_true, if_false, false_iff]
    rintro ⟨r, _, hN⟩
    have := hN.lg
    rw [hlg] at this
    injection this with _ this
    cases this
def badB (a : Int) (q : List Int) : Bool := if (q.length : Int) > 0 then !(nrB q a) else false
theorem bad_ev (a : Int) (q : List Int) (hm : q.length ≤ 4611686018427387000) : Ev (fun k => model_log_bad.f k a q) (badB a q) := by
  unfold model_log_bad.f badB
  by_cases h : (q.length : Int) > 0
  · rw [if_pos h]; exact ev_pos h (Ev.bind (nright_ev q a hm) (Ev.now _))
  · rw [if_neg h]; exact ev_neg h (Ev.now _)
theorem badAt_ev (a : Int) : ∀ (l : List (List Int)), (∀ q ∈ l, q.length ≤ 4611686018427387000) → Ev (fun k => badAt k a l) (l.any (badB a))
  | [], _ => Ev.now _
  | q :: t, h => by
    refine Ev.congr (fun k => by rw [badAt]) (Ev.bind (bad_ev a q (h q (by simp))) ?_)
    rw [List.any_cons]
    cases hb : badB a q with
    | true => exact ev_pos rfl (ev_eq (Ev.now _) rfl)
    | false => exact ev_neg (by decide) (ev_eq (badAt_ev a t (fun x hx => h x (by simp [hx]))) rfl)
def rightM (a0 : Int) (a1 : Bool) (l : List (List Int)) : Bool :=
  if a0 < 1 then false else if 12 < a0 then false else if l.any (badB a0) = true then false else if a1 = true then (if l.length = 1 then decide (0 < (l.getD 0 []).length) else false) else decide (l.length = 256)
theorem mright_ev (a0 : Int) (a1 : Bool) (l : List (List Int)) (hl : ∀ q ∈ l, q.length ≤ 4611686018427387000) : Ev (fun k => model_Right.f k a0 a1 l) (rightM a0 a1 l) := by
  unfold model_Right.f rightF
  by_cases h1 : a0 < 1
  · exact ev_pos h1 (ev_eq (Ev.now _) (by unfold rightM; rw [if_pos h1]))
  · refine ev_neg h1 ?_
    by_cases h2 : 12 < a0
    · exact ev_pos h2 (ev_eq (Ev.now _) (by unfold rightM; rw [if_neg h1, if_pos h2]))
    · refine ev_neg h2 (Ev.bind (badAt_ev a0 l hl) ?_)
      by_cases h3 : l.any (badB a0) = true
      · exact ev_pos h3 (ev_eq (Ev.now _) (by unfold rightM; rw [if_neg h1, if_neg h2, if_pos h3]))
      · refine ev_neg h3 ?_
        by_cases h4 : a1 = true
        · refine ev_pos h4 ?_
          by_cases h5 : l.length = 1
          · exact ev_pos h5 (ev_eq (Ev.now _) (by unfold rightM; rw [if_neg h1, if_neg h2, if_neg h3, if_pos h4, if_pos h5]))
          · exact ev_neg h5 (ev_eq (Ev.now _) (by unfold rightM; rw [if_neg h1, if_neg h2, if_neg h3, if_pos h4, if_neg h5]))
        · exact ev_neg h4 (ev_eq (Ev.now _) (by unfold rightM; rw [if_neg h1, if_neg h2, if_neg h3, if_neg h4]))
/-- what is right -/
structure RightM (a0 : Int) (a1 : Bool) (l : List (List Int)) : Prop where
  lo : 1 ≤ a0
  hi : a0 ≤ 12
  rows : ∀ q ∈ l, 0 < q.length → ∃ r : Nat, a0 = (r : Int) ∧ IsN q r
  one : a1 = true → l.length = 1 ∧ 0 < (l.getD 0 []).length
  all : a1 = false → l.length = 256
theorem rightM_iff (a0 : Int) (a1 : Bool) (l : List (List Int)) : rightM a0 a1 l = true ↔ RightM a0 a1 l := by
  have hany : (¬ l.any (badB a0) = true) ↔ ∀ q ∈ l, 0 < q.length → ∃ r : Nat, a0 = (r : Int) ∧ IsN q r := by
    rw [List.any_eq_true]
    constructor
    · intro h q hq h0
      rw [← nrB_iff]
      cases hn : nrB q a0 with
      | true => rfl
      | false => exact absurd ⟨q, hq, by unfold badB; rw [if_pos (by omega), hn]; rfl⟩ h
    · rintro h ⟨q, hq, hb⟩
      unfold badB at hb
      by_cases h0 : (q.length : Int) > 0
      · rw [if_pos h0, (nrB_iff q a0).2 (h q hq (by omega))] at hb; cases hb
      · rw [if_neg h0] at hb; cases hb
  unfold rightM
  constructor
  · intro h
    by_cases h1 : a0 < 1
    · rw [if_pos h1] at h; cases h
    · rw [if_neg h1] at h
      by_cases h2 : 12 < a0
      · rw [if_pos h2] at h; cases h
      · rw [if_neg h2] at h
        by_cases h3 : l.any (badB a0) = true
        · rw [if_pos h3] at h; cases h
        · rw [if_neg h3] at h
          refine ⟨by omega, by omega, hany.1 h3, fun h4 => ?_, fun h4 => ?_⟩
          · rw [if_pos h4] at h
            by_cases h5 : l.length = 1
            · rw [if_pos h5] at h; exact ⟨h5, of_decide_eq_true h⟩
            · rw [if_neg h5] at h; cases h
          · rw [if_neg (by rw [h4]; simp)] at h; exact of_decide_eq_true h
  · intro h
    rw [if_neg (by have := h.lo; omega), if_neg (by have := h.hi; omega), if_neg (hany.2 h.rows)]
    by_cases h4 : a1 = true
    · rw [if_pos h4, if_pos (h.one h4).1]; exact decide_eq_true (h.one h4).2
    · rw [if_neg h4]; exact decide_eq_true (h.all (by simpa using h4))
/-- a context's list -/
def rowAt (a1 : Bool) (l : List (List Int)) (c : Int) : List Int := if a1 = true then l.getD 0 [] else l.getD c.toNat []
def atM (a0 : Int) (a1 : Bool) (l : List (List Int)) (c : Int) : List Int := if c < 0 then [] else if c ≥ 256 then [] else if rightM a0 a1 l = true then rowAt a1 l c else []
theorem getD_len {l : List (List Int)} {B : Nat} (hl : ∀ q ∈ l, q.length ≤ B) (i : Nat) : (l.getD i []).length ≤ B := by
  rw [List.getD_eq_getElem?_getD]
  rcases Nat.lt_or_ge i l.length with h | h
  · rw [List.getElem?_eq_getElem h]; exact hl _ (List.getElem_mem h)
  · rw [List.getElem?_eq_none h]; simp
theorem clone_eq (q : List Int) (h : q.length ≤ 17592186044416) : slices_Clone_int_int.f q = some q := by unfold slices_Clone_int_int.f; rw [if_pos h]
theorem mat_ev (a0 : Int) (a1 : Bool) (l : List (List Int)) (c : Int) (hl : ∀ q ∈ l, q.length ≤ 17592186044416) : Ev (fun k => model_At.f k a0 a1 l c) (atM a0 a1 l c) := by
  unfold model_At.f atM
  have hno : Ev (fun k => model_At.j0 k c true a0 a1 l) [] := by
    refine Ev.step (fun _ => by rw [model_At.j0]) ?_
    exact ev_pos rfl (Ev.now _)
  by_cases h1 : c < 0
  · rw [if_pos h1]; exact ev_pos h1 hno
  · rw [if_neg h1]
    refine ev_neg h1 ?_
    by_cases h2 : c ≥ 256
    · rw [if_pos h2]; exact ev_pos h2 hno
    · rw [if_neg h2]
      refine ev_neg h2 (Ev.bind (mright_ev a0 a1 l (fun q hq => by have := hl q hq; omega)) ?_)
      cases hr : rightM a0 a1 l with
      | false => exact hno
      | true =>
        have R := (rightM_iff a0 a1 l).1 hr
        refine Ev.step (fun _ => by rw [model_At.j0]) ?_
        refine ev_neg (by decide) ?_
        rw [if_pos rfl]
        unfold rowAt
        cases a1 with
        | true =>
          have h3 := (R.one rfl).1
          refine ev_pos rfl (ev_pos (by omega) (ev_obind (clone_eq _ (getD_len hl 0)) ?_))
          exact ev_eq (Ev.now _) rfl
        | false =>
          have h3 := R.all rfl
          refine ev_neg (by decide) (ev_pos (by omega) (ev_pos (by omega) (ev_obind (clone_eq _ (getD_len hl c.toNat)) ?_)))
          exact ev_eq (Ev.now _) rfl
/-! does a model fit bytes -/
def okAt (a1 : Bool) (l : List (List Int)) (b : List Int) (i : Nat) : Bool := decide (¬ ((rowAt a1 l (ctxAt b i)).length : Int) = 0) && decide (¬ (rowAt a1 l (ctxAt b i)).getD (b.getD i 0).toNat 0 = 0)
def fitFrom (a1 : Bool) (l : List (List Int)) (b : List Int) : Nat → Nat → Bool
  | 0, _ => true
  | d + 1, i => if okAt a1 l b i = true then fitFrom a1 l b d (i + 1) else false
theorem fitFrom_iff (a1 : Bool) (l : List (List Int)) (b : List Int) : ∀ d i, fitFrom a1 l b d i = true ↔ ∀ j, i ≤ j → j < i + d → okAt a1 l b j = true
  | 0, i => by simp only [fitFrom, true_iff]; intro j h1 h2; omega
  | d + 1, i => by
    rw [fitFrom]
    by_cases h : okAt a1 l b i = true
    · rw [if_pos h, fitFrom_iff a1 l b d (i + 1)]
      constructor
      · intro k j h1 h2
        by_cases e : j = i
        · subst e; exact h
        · exact k j (by omega) (by omega)
      · intro k j h1 h2; exact k j (by omega) (by omega)
    · rw [if_neg h]
      constructor
      · intro k; cases k
      · intro k; exact absurd (k i (Nat.le_refl _) (by omega)) h
def fitsM (a0 : Int) (a1 : Bool) (l : List (List Int)) (b : List Int) : Bool := if rightM a0 a1 l = true then fitFrom a1 l b b.length 0 else false
theorem atZ_nat (l : List Int) (i : Nat) (h : i < l.length) : atZ l (i : Int) = ctxAt l i := by
  unfold atZ; rw [if_pos ⟨by omega, by omega⟩, Int.toNat_natCast]
theorem row_len {a0 : Int} {a1 : Bool} {l : List (List Int)} (R : RightM a0 a1 l) (i : Nat) (h : ¬ ((l.getD i []).length : Int) = 0) : (l.getD i []).length = 256 := by
  rw [List.getD_eq_getElem?_getD] at h ⊢
  rcases Nat.lt_or_ge i l.length with hi | hi
  · rw [List.getElem?_eq_getElem hi] at h ⊢
    simp only [Option.getD_some] at h ⊢
    obtain ⟨r, _, hN⟩ := R.rows _ (List.getElem_mem hi) (by omega)
    exact ((rightB_iff _).1 hN.R).1
  · rw [List.getElem?_eq_none hi] at h; simp at h
theorem fits_from {a0 : Int} {a1 : Bool} {l : List (List Int)} (R : RightM a0 a1 l) {b : List Int} (hok : BytesOk b) (hm : b.length ≤ 1099511627776) : ∀ (d i : Nat), i + d = b.length → Ev (fun k => model_Fits.l0 k b b (b.length : Int) (i : Int) a0 a1 l) (fitFrom a1 l b d i)
  | 0, i, h => by
    refine Ev.step (fun _ => by rw [model_Fits.l0]) ?_
    exact ev_neg (by omega) (Ev.now _)
  | d + 1, i, h => by
    have ih := fits_from R hok hm d (i + 1) (by omega)
    have hx := hok.at i (by omega)
    have hc := ctxAt_ok hok i (by omega)
    refine Ev.step (fun _ => by rw [model_Fits.l0]) ?_
    refine ev_pos (by omega) (ev_pos (by omega) (ev_pos (by omega) (Ev.bind (at_ev b hok hm (i : Int) (by omega) (by omega)) ?_)))
    rw [atZ_nat b i (by omega), rd_nat, wnext i (by omega)]
    have fin : ∀ (n : Nat), (l.getD n []) = rowAt a1 l (ctxAt b i) → Ev (fun k => if ((l.getD n []).length : Int) = 0 then (some false) else (if 0 ≤ b.getD i 0 then (if b.getD i 0 < ((l.getD n []).length : Int) then (if (rd (l.getD n []) (b.getD i 0)) = 0 then (some false) else (model_Fits.l0 k b b (b.length : Int) ((i + 1 : Nat) : Int) a0 a1 l)) else (none)) else (none))) (fitFrom a1 l b (d + 1) i) := by
      intro n hn
      rw [fitFrom]
      unfold okAt
      rw [← hn]
      by_cases h0 : ((l.getD n []).length : Int) = 0
      · refine ev_pos h0 (ev_eq (Ev.now _) ?_)
        rw [if_neg (by rw [decide_eq_false (fun h => h h0)]; simp)]
      · have hl := row_len R n h0
        refine ev_neg h0 (ev_pos hx.1 (ev_pos (by omega) ?_))
        by_cases h2 : (l.getD n []).getD (b.getD i 0).toNat 0 = 0
        · refine ev_pos h2 (ev_eq (Ev.now _) ?_)
          rw [if_neg (by rw [decide_eq_true h0, decide_eq_false (fun h => h h2)]; simp)]
        · refine ev_neg h2 (ev_eq ih ?_)
          rw [if_pos (by rw [decide_eq_true h0, decide_eq_true h2]; rfl)]
    cases ha : a1 with
    | true =>
      subst ha
      have h3 := (R.one rfl).1
      exact ev_pos rfl (ev_pos (by omega) (fin 0 (by unfold rowAt; rw [if_pos rfl])))
    | false =>
      subst ha
      have h3 := R.all rfl
      exact ev_neg (by decide) (ev_pos hc.1 (ev_pos (by omega) (fin (ctxAt b i).toNat (by unfold rowAt; rw [if_neg (by decide)]))))
theorem fits_ev (a0 : Int) (a1 : Bool) (l : List (List Int)) (hl : ∀ q ∈ l, q.length ≤ 4611686018427387000) (b : List Int) (hok : BytesOk b) (hm : b.length ≤ 1099511627776) : Ev (fun k => model_Fits.f k a0 a1 l b) (fitsM a0 a1 l b) := by
  unfold model_Fits.f fitsM
  refine Ev.bind (mright_ev a0 a1 l hl) ?_
  by_cases hr : rightM a0 a1 l = true
  · rw [if_pos hr]; exact ev_pos hr (fits_from ((rightM_iff a0 a1 l).1 hr) hok hm b.length 0 (by omega))
  · rw [if_neg hr]; exact ev_neg hr (Ev.now _)
/-! what is made -/
theorem many_tot {c : List Int} (h : ¬ 0 < manyZ c) : totZ c = 0 := by
  unfold manyZ at h
  unfold totZ
  by_cases hr : rightB c = true
  · rw [if_pos hr] at h ⊢
    obtain ⟨_, hn, _⟩ := (rightB_iff c).1 hr
    unfold pos at h
    have hz : ∀ x ∈ c, x = 0 := by
      intro x hx
      have h0 := hn x hx
      by_cases hp : 0 < x
      · have := List.length_pos_of_mem (List.mem_filter.2 ⟨hx, decide_eq_true hp⟩ : x ∈ c.filter fun x => decide (0 < x))
        omega
      · omega
    have hs : ∀ c : List Int, (∀ x ∈ c, x = 0) → c.sum = 0 := by
      intro c
      induction c with
      | nil => intro _; rfl
      | cons x t ih => intro k; rw [List.sum_cons, k x (by simp), ih (fun y hy => k y (by simp [hy]))]; omega
    exact hs c hz
  · rw [if_neg hr]
/-- a list that is made of counts -/
def Row (c : List Int) (r : Int) (q : List Int) : Prop := ∃ e, CntTo c r q e
theorem rows_ex (F : Nat → List Int) (r : Int) : ∀ n, ∃ R : List (List Int), R.length = n ∧ ∀ i, i < n → Row (F i) r (R.getD i [])
  | 0 => ⟨[], rfl, fun i h => by omega⟩
  | n + 1 => by
    obtain ⟨R, h1, h2⟩ := rows_ex F r n
    obtain ⟨q, e, h⟩ := cntTo_ex (F n) r
    refine ⟨R ++ [q], by rw [List.length_append, h1]; rfl, fun i hi => ?_⟩
    rw [List.getD_eq_getElem?_getD]
    by_cases hin : i = n
    · subst hin
      rw [List.getElem?_append_right (by omega), h1, Nat.sub_self]
      exact ⟨e, h⟩
    · rw [List.getElem?_append_left (by omega), ← List.getD_eq_getElem?_getD]
      exact h2 i (by omega)
theorem made_ev (F : Nat → List Int) (r : Int) (R : List (List Int)) : ∀ n, n ≤ R.length → (∀ i, i < n → (F i).length = 256) → (∀ i, i < n → Row (F i) r (R.getD i [])) → Ev (fun k => madeTo k F r n) (R.take n)
  | 0, _, _, _ => by rw [List.take_zero]; exact Ev.now _
  | n + 1, h, hF, hR => by
    have ih := made_ev F r R n (by omega) (fun i hi => hF i (by omega)) (fun i hi => hR i (by omega))
    have hs : R.take (n + 1) = R.take n ++ [R.getD n []] := by
      rw [List.take_succ_eq_append_getElem (by omega), List.getD_eq_getElem?_getD, List.getElem?_eq_getElem (by omega)]; rfl
    have hl := hF n (by omega)
    obtain ⟨e, hq⟩ := hR n (by omega)
    refine Ev.congr (fun k => by rw [madeTo]) (Ev.bind ih (Ev.bind (many_ev (F n) (by omega)) ?_))
    rw [hs]
    by_cases hm : manyZ (F n) > 0
    · exact ev_pos hm (Ev.bind (counts_ev (F n) r (by omega) hq) (Ev.now _))
    · have : ¬ okC (F n) r := fun hk => hk.1 (many_tot hm)
      rw [(hq.no this).1]
      exact ev_neg hm (Ev.now _)
theorem row_bd {c : List Int} {r : Int} {q : List Int} (h : Row c r q) : q.length ≤ 256 := by
  obtain ⟨e, h⟩ := h
  by_cases hk : okC c r
  · have := (norm_facts hk.good.1 (h.yes hk).1).1; omega
  · rw [(h.no hk).1]; simp
theorem rows_bd {F : Nat → List Int} {r : Int} {R : List (List Int)} {n : Nat} (hn : R.length = n) (h : ∀ i, i < n → Row (F i) r (R.getD i [])) : ∀ q ∈ R, q.length ≤ 256 := by
  intro q hq
  obtain ⟨i, hi, rfl⟩ := List.getElem_of_mem hq
  have := row_bd (h i (by omega))
  rwa [List.getD_eq_getElem?_getD, List.getElem?_eq_getElem hi] at this
theorem row_yes {c : List Int} {r : Nat} {q : List Int} (h : Row c (r : Int) q) (hk : okC c (r : Int)) : IsN q r ∧ ∀ s, s < 256 → (0 < q.getD s 0 ↔ 0 < c.getD s 0) := by
  obtain ⟨e, h⟩ := h
  obtain ⟨h1, h2, h3⟩ := norm_facts hk.good.1 (h.yes hk).1
  rw [Int.toNat_natCast] at h2
  have hb := pow_nat r (by have := hk.2.1; omega) (by have := hk.2.2.1; omega)
  refine ⟨⟨by have := hk.2.1; omega, by have := hk.2.2.1; omega, (rightB_iff q).2 ⟨h1, nn_mem h1 (fun s hs => (h3 s hs).1), by omega⟩, h2⟩, fun s hs => (h3 s hs).2⟩
theorem row_no {c : List Int} {r : Int} {q : List Int} (h : Row c r q) (hk : ¬ okC c r) : q = [] := by
  obtain ⟨e, h⟩ := h
  exact (h.no hk).1
theorem okB_of {l : List Int} (hok : BytesOk l) (hm : l.length ≤ 1099511627776) : okBytes l = true := (okBytes_iff l).2 ⟨hm, hok⟩
theorem pick_eq (n m t : Int) (h0 : -9223372036854775808 ≤ n ∧ n ≤ 9223372036854775807) (h1 : 0 ≤ m ∧ m ≤ 256) : logs_Pick.f n m t = some (pic n m t) := by
  unfold logs_Pick.f; rw [if_pos ⟨h0, by omega, by omega⟩]
def zlog (l : List Int) : Int := pic (l.length : Int) (manyZ (cnt l)) 11
theorem zero_ev (l : List Int) (hok : BytesOk l) (hm : l.length ≤ 1099511627776) (h0 : ¬ l.length = 0) {q : List Int} (hq : Row (cnt l) (zlog l) q) : Ev (fun k => model_Zero.f k l) (zlog l, true, [q], 0) := by
  unfold model_Zero.f zeroF
  refine ev_pos (okB_of hok hm) (ev_neg h0 (Ev.bind (many_ev (cnt l) (by rw [cnt_len]; omega)) ?_))
  have hmz := manyZ_bd (cnt l)
  refine ev_obind (pick_eq _ _ _ (by omega) hmz) ?_
  exact Ev.bind (made_ev (fun _ => cnt l) (zlog l) [q] 1 (by simp) (fun _ _ => cnt_len l) (fun i hi => by rw [show i = 0 by omega]; exact hq)) (Ev.now _)
theorem zero_no : Ev (fun k => model_Zero.f k []) (0, false, [], 1) := by
  unfold model_Zero.f zeroF
  exact ev_pos (by decide) (ev_pos rfl (Ev.now _))
end Go.Proofs.Ytcffmmdgjifaaaa
namespace Go.Proofs.Ytcffmmdgjifaaaa
open Go.RowKit Go.Proofs.YtcffmmdgjifaaaaW.PrintWords Go.Proofs.YtcffmmdgjifaaaaW.PrintLast Go.Proofs.YtcffmmdgjifaaaaW.PrintMore PPr
set_option linter.unusedSimpArgs false
set_option linter.unusedVariables false
theorem rightM_no {a0 : Int} {a1 : Bool} {l : List (List Int)} (h : RightM a0 a1 l → False) : rightM a0 a1 l = false := by
  cases hr : rightM a0 a1 l with
  | false => rfl
  | true => exact absurd ((rightM_iff a0 a1 l).1 hr) h
def RowOk (a0 : Int) (a1 : Bool) (q : List Int) : Prop := (q.length = 0 ∧ a1 = false) ∨ ∃ r : Nat, a0 = (r : Int) ∧ IsN q r
theorem lg_iff (q : List Int) {a0 : Int} (h0 : 1 ≤ a0) : (lg (totZ q) 12 1).1 = a0 ↔ ∃ r : Nat, a0 = (r : Int) ∧ IsN q r := by
  rcases isN_or q with ⟨r, hN, hlg⟩ | hlg
  · rw [hlg]
    refine ⟨fun h => ⟨r, h.symm, hN⟩, ?_⟩
    rintro ⟨r', rfl, hN'⟩
    have := hN'.lg
    rw [hlg] at this
    injection this with this
  · rw [hlg]
    refine ⟨fun h => by simp only [] at h; omega, ?_⟩
    rintro ⟨r, _, hN⟩
    have := hN.lg
    rw [hlg] at this
    injection this with _ this
    cases this
theorem rright_row {a0 : Int} {a1 : Bool} {l : List (List Int)} (h0 : 1 ≤ a0) (h1 : a0 ≤ 12) (o : a1 = true → l.length = 1) (n : a1 = false → l.length = 256) (hr : ∀ j, j < l.length → RowOk a0 a1 (l.getD j [])) : RightM a0 a1 l := by
  have hm : ∀ q ∈ l, RowOk a0 a1 q := by
    intro q hq
    obtain ⟨j, hj, rfl⟩ := List.getElem_of_mem hq
    have := hr j hj
    rwa [List.getD_eq_getElem?_getD, List.getElem?_eq_getElem hj] at this
  refine ⟨h0, h1, fun q hq hl => ?_, fun ha => ⟨o ha, ?_⟩, n⟩
  · rcases hm q hq with ⟨h, _⟩ | h
    · omega
    · exact h
  · rcases hr 0 (by rw [o ha]; omega) with ⟨_, h⟩ | ⟨r, _, hN⟩
    · rw [ha] at h; cases h
    · rw [((rightB_iff _).1 hN.R).1]; omega
theorem rr_from {a0 : Int} {a1 : Bool} {l : List (List Int)} (hl : ∀ q ∈ l, q.length ≤ 4611686018427387000) (hn : l.length ≤ 4611686018427387000) (h0 : 1 ≤ a0) (h1 : a0 ≤ 12) (o : a1 = true → l.length = 1) (n : a1 = false → l.length = 256) : ∀ (d i : Nat), i + d = l.length → (∀ j, j < i → RowOk a0 a1 (l.getD j [])) → Ev (fun k => puncheonref16_Right.l0 k (i : Int) a0 a1 l) (rightM a0 a1 l)
  | 0, i, h, hi => by
    refine Ev.step (fun _ => by rw [puncheonref16_Right.l0]) ?_
    refine ev_neg (by omega) (ev_eq (Ev.now _) ?_)
    exact ((rightM_iff a0 a1 l).2 (rright_row h0 h1 o n (fun j hj => hi j (by omega)))).symm
  | d + 1, i, h, hi => by
    have next : RowOk a0 a1 (l.getD i []) → Ev (fun k => puncheonref16_Right.l0 k (wrap64 ((i : Int) + 1)) a0 a1 l) (rightM a0 a1 l) := by
      intro hk
      rw [wnext i (by omega)]
      refine rr_from hl hn h0 h1 o n d (i + 1) (by omega) (fun j hj => ?_)
      by_cases e : j = i
      · subst e; exact hk
      · exact hi j (by omega)
    have look : (a1 = true ∨ 0 < (l.getD i []).length) → Ev (fun k => puncheonref16_Right.j2 k (i : Int) false a0 a1 l) (rightM a0 a1 l) := by
      intro hor
      refine Ev.step (fun _ => by rw [puncheonref16_Right.j2]) ?_
      refine ev_neg (by decide) (ev_pos (by omega) (ev_pos (by omega) (Ev.bind (rlog_ev (l.getD i []) (getD_len hl i)) ?_)))
      by_cases he : (lg (totZ (l.getD i [])) 12 1).1 = a0
      · exact ev_pos he (next (.inr ((lg_iff _ h0).1 he)))
      · refine ev_neg he (ev_eq (Ev.now _) ?_)
        refine (rightM_no (fun R => he ?_)).symm
        rw [lg_iff _ h0]
        have hmem : l.getD i [] ∈ l := by
          rw [List.getD_eq_getElem?_getD, List.getElem?_eq_getElem (by omega)]; exact List.getElem_mem _
        by_cases hz : 0 < (l.getD i []).length
        · exact R.rows _ hmem hz
        · cases ha : a1 with
          | true =>
            have := R.one ha
            obtain rfl : i = 0 := by omega
            exact absurd this.2 hz
          | false =>
            rcases hor with h | h
            · rw [ha] at h; cases h
            · exact absurd h hz
    refine Ev.step (fun _ => by rw [puncheonref16_Right.l0]) ?_
    refine ev_pos (by omega) (ev_pos (by omega) ?_)
    by_cases hz : ((l.getD i []).length : Int) = 0
    · refine ev_pos hz ?_
      cases ha : a1 with
      | true => rw [ha] at look; exact look (.inl rfl)
      | false =>
        rw [ha] at next
        refine Ev.step (fun _ => by rw [puncheonref16_Right.j2]) ?_
        exact ev_pos rfl (next (.inl ⟨by omega, rfl⟩))
    · exact ev_neg hz (look (.inr (by omega)))
theorem rref_ev (a0 : Int) (a1 : Bool) (l : List (List Int)) (hl : ∀ q ∈ l, q.length ≤ 4611686018427387000) (hn : l.length ≤ 4611686018427387000) : Ev (fun k => puncheonref16_Right.f k a0 a1 l) (rightM a0 a1 l) := by
  unfold puncheonref16_Right.f
  have no : (RightM a0 a1 l → False) → Ev (fun k => puncheonref16_Right.j0 k true a0 a1 l) (rightM a0 a1 l) := by
    intro h
    refine Ev.step (fun _ => by rw [puncheonref16_Right.j0]) ?_
    exact ev_pos rfl (ev_eq (Ev.now _) (rightM_no h).symm)
  by_cases h1 : a0 < 1
  · exact ev_pos h1 (no (fun R => by have := R.lo; omega))
  · refine ev_neg h1 ?_
    by_cases h2 : a0 > 12
    · exact ev_pos h2 (no (fun R => by have := R.hi; omega))
    · refine ev_neg h2 ?_
      have yes : (a1 = true → l.length = 1) → (a1 = false → l.length = 256) → Ev (fun k => puncheonref16_Right.j0 k false a0 a1 l) (rightM a0 a1 l) := by
        intro o n
        refine Ev.step (fun _ => by rw [puncheonref16_Right.j0]) ?_
        exact ev_neg (by decide) (rr_from hl hn (by omega) (by omega) o n l.length 0 (by omega) (fun j hj => by omega))
      cases ha : a1 with
      | true =>
        rw [ha] at no yes
        refine ev_pos rfl ?_
        by_cases h3 : (l.length : Int) = 1
        · exact ev_pos h3 (yes (fun _ => by omega) (fun h => by cases h))
        · exact ev_neg h3 (no (fun R => by have := (R.one rfl).1; omega))
      | false =>
        rw [ha] at no yes
        refine ev_neg (by decide) ?_
        by_cases h3 : (l.length : Int) = 256
        · rw [show ((l.length : Int) != 256) = false by rw [bne_eq_false_iff_eq]; exact h3]
          exact yes (fun h => by cases h) (fun _ => by omega)
        · rw [show ((l.length : Int) != 256) = true by rw [bne_iff_ne]; exact h3]
          exact no (fun R => by have := R.all rfl; omega)
theorem rat16_ev (a0 : Int) (a1 : Bool) (l : List (List Int)) (c : Int) (hl : ∀ q ∈ l, q.length ≤ 4611686018427387000) (hn : l.length ≤ 4611686018427387000) : Ev (fun k => puncheonref16_At.f k a0 a1 l c) (atM a0 a1 l c) := by
  unfold puncheonref16_At.f
  have no : atM a0 a1 l c = [] → Ev (fun k => puncheonref16_At.j0 k c true a0 a1 l) (atM a0 a1 l c) := by
    intro h
    refine Ev.step (fun _ => by rw [puncheonref16_At.j0]) ?_
    exact ev_pos rfl (ev_eq (Ev.now _) h.symm)
  refine Ev.bind (rref_ev a0 a1 l hl hn) ?_
  by_cases hr : rightM a0 a1 l = true
  · refine ev_pos hr ?_
    have R := (rightM_iff a0 a1 l).1 hr
    by_cases h1 : c < 0
    · exact ev_pos h1 (no (by unfold atM; rw [if_pos h1]))
    · refine ev_neg h1 ?_
      by_cases h2 : c > 255
      · rw [decide_eq_true h2]; exact no (by unfold atM; rw [if_neg h1, if_pos (by omega)])
      · rw [decide_eq_false h2]
        refine Ev.step (fun _ => by rw [puncheonref16_At.j0]) ?_
        refine ev_neg (by decide) ?_
        have e : atM a0 a1 l c = rowAt a1 l c := by unfold atM; rw [if_neg h1, if_neg (by omega), if_pos hr]
        rw [e]
        unfold rowAt
        cases ha : a1 with
        | true =>
          have := (R.one ha).1
          refine ev_pos rfl (ev_pos (by omega) ?_)
          exact ev_eq (Ev.now _) rfl
        | false =>
          have := R.all ha
          refine ev_neg (by decide) (ev_pos (by omega) (ev_pos (by omega) ?_))
          exact ev_eq (Ev.now _) rfl
  · refine ev_neg hr (no ?_)
    unfold atM
    split
    · rfl
    · split
      · rfl
      · first | rfl | rw [if_neg hr]
theorem rfits_from {a0 : Int} {a1 : Bool} {l : List (List Int)} (hl : ∀ q ∈ l, q.length ≤ 4611686018427387000) (hn : l.length ≤ 4611686018427387000) (hr : rightM a0 a1 l = true) {b : List Int} (hok : BytesOk b) (hm : b.length ≤ 1099511627776) : ∀ (d i : Nat), i + d = b.length → Ev (fun k => puncheonref16_Fits.l0 k b (i : Int) a0 a1 l) (fitFrom a1 l b d i)
  | 0, i, h => by
    refine Ev.step (fun _ => by rw [puncheonref16_Fits.l0]) ?_
    exact ev_neg (by omega) (Ev.now _)
  | d + 1, i, h => by
    have ih := rfits_from hl hn hr hok hm d (i + 1) (by omega)
    have R := (rightM_iff a0 a1 l).1 hr
    have hx := hok.at i (by omega)
    have hc := ctxAt_ok hok i (by omega)
    have e : atM a0 a1 l (ctxAt b i) = rowAt a1 l (ctxAt b i) := by unfold atM; rw [if_neg (by omega), if_neg (by omega), if_pos hr]
    refine Ev.step (fun _ => by rw [puncheonref16_Fits.l0]) ?_
    refine ev_pos (by omega) (ev_obind (rat_nat b hok hm i (by omega)) (Ev.bind (rat16_ev a0 a1 l (ctxAt b i) hl hn) ?_))
    rw [e, rd_nat, wnext i (by omega), fitFrom]
    unfold okAt
    have hrl : ¬ ((rowAt a1 l (ctxAt b i)).length : Int) = 0 → (rowAt a1 l (ctxAt b i)).length = 256 := by
      unfold rowAt
      split
      · exact row_len R 0
      · exact row_len R _
    generalize rowAt a1 l (ctxAt b i) = q at *
    by_cases h0 : (q.length : Int) = 0
    · refine ev_pos h0 (ev_eq (Ev.now _) ?_)
      rw [if_neg (by rw [decide_eq_false (fun h => h h0)]; simp)]
    · have hl := hrl h0
      refine ev_neg h0 (ev_pos (by omega) (ev_pos hx.1 (ev_pos (by omega) ?_)))
      by_cases h2 : q.getD (b.getD i 0).toNat 0 = 0
      · refine ev_pos h2 (ev_eq (Ev.now _) ?_)
        rw [if_neg (by rw [decide_eq_true h0, decide_eq_false (fun h => h h2)]; simp)]
      · refine ev_neg h2 (ev_eq ih ?_)
        rw [if_pos (by rw [decide_eq_true h0, decide_eq_true h2]; rfl)]
theorem rfits_ev (a0 : Int) (a1 : Bool) (l : List (List Int)) (hl : ∀ q ∈ l, q.length ≤ 4611686018427387000) (hn : l.length ≤ 4611686018427387000) (b : List Int) (hok : BytesOk b) (hm : b.length ≤ 1099511627776) : Ev (fun k => puncheonref16_Fits.f k a0 a1 l b) (fitsM a0 a1 l b) := by
  unfold puncheonref16_Fits.f fitsM
  refine Ev.bind (rref_ev a0 a1 l hl hn) ?_
  by_cases hr : rightM a0 a1 l = true
  · rw [if_pos hr]; exact ev_pos hr (rfits_from hl hn hr hok hm b.length 0 (by omega))
  · rw [if_neg hr]; exact ev_neg hr (Ev.now _)
end Go.Proofs.Ytcffmmdgjifaaaa
namespace Go.Proofs.Ytcffmmdgjifaaaa
open Go.RowKit Go.Proofs.YtcffmmdgjifaaaaW.PrintWords Go.Proofs.YtcffmmdgjifaaaaW.PrintLast Go.Proofs.YtcffmmdgjifaaaaW.PrintMore PPr
set_option linter.unusedSimpArgs false
set_option linter.unusedVariables false
theorem wup (x : Int) (h0 : 0 ≤ x) (h : x + 1 ≤ 9223372036854775807) : wrap64 (x + 1) = x + 1 := w64' rfl (by omega) (by omega)
theorem few_from (a0 : Int) (a1 : Bool) (l : List (List Int)) (hl : l.length ≤ 9223372036854775807) : ∀ (d i : Nat) (n : Int), i + d = l.length → 0 ≤ n → n ≤ i → (∀ j, j < i → (l.getD j []).length ≤ 300) → ∃ b, Ev (fun k => puncheonref16_Few.l0 k n (i : Int) a0 a1 l) b ∧ (b = true → l.length ≤ 300 ∧ ∀ q ∈ l, q.length ≤ 300)
  | 0, i, n, h, h0, h1, hr => by
    by_cases h3 : (l.length : Int) ≤ 300
    · refine ⟨decide (n ≤ 40), ?_, fun _ => ⟨by omega, fun q hq => ?_⟩⟩
      · refine Ev.step (fun _ => by rw [puncheonref16_Few.l0]) ?_
        exact ev_neg (by omega) (ev_pos h3 (Ev.now _))
      · obtain ⟨j, hj, rfl⟩ := List.getElem_of_mem hq
        have := hr j (by omega)
        rwa [List.getD_eq_getElem?_getD, List.getElem?_eq_getElem hj] at this
    · refine ⟨false, ?_, fun h => by cases h⟩
      refine Ev.step (fun _ => by rw [puncheonref16_Few.l0]) ?_
      exact ev_neg (by omega) (ev_neg h3 (Ev.now _))
  | d + 1, i, n, h, h0, h1, hr => by
    have wi : wrap64 ((i : Int) + 1) = ((i + 1 : Nat) : Int) := by rw [wup (i : Int) (by omega) (by omega)]; omega
    have wn : wrap64 (n + 1) = n + 1 := wup n h0 (by omega)
    by_cases h3 : ((l.getD i []).length : Int) > 300
    · refine ⟨false, ?_, fun h => by cases h⟩
      refine Ev.step (fun _ => by rw [puncheonref16_Few.l0]) ?_
      exact ev_pos (by omega) (ev_pos (by omega) (ev_pos h3 (Ev.now _)))
    · have hr2 : ∀ j, j < i + 1 → (l.getD j []).length ≤ 300 := by
        intro j hj
        by_cases e : j = i
        · subst e; omega
        · exact hr j (by omega)
      by_cases h4 : ((l.getD i []).length : Int) > 0
      · obtain ⟨b, hb, hk⟩ := few_from a0 a1 l hl d (i + 1) (n + 1) (by omega) (by omega) (by omega) hr2
        refine ⟨b, ?_, hk⟩
        refine Ev.step (fun _ => by rw [puncheonref16_Few.l0]) ?_
        rw [wi, wn]
        exact ev_pos (by omega) (ev_pos (by omega) (ev_neg h3 (ev_pos h4 hb)))
      · obtain ⟨b, hb, hk⟩ := few_from a0 a1 l hl d (i + 1) n (by omega) (by omega) (by omega) hr2
        refine ⟨b, ?_, hk⟩
        refine Ev.step (fun _ => by rw [puncheonref16_Few.l0]) ?_
        rw [wi]
        exact ev_pos (by omega) (ev_pos (by omega) (ev_neg h3 (ev_neg h4 hb)))
theorem few_ex (a0 : Int) (a1 : Bool) (l : List (List Int)) (hl : l.length ≤ 9223372036854775807) : ∃ b, Ev (fun k => puncheonref16_Few.f k a0 a1 l) b ∧ (b = true → l.length ≤ 300 ∧ ∀ q ∈ l, q.length ≤ 300) :=
  few_from a0 a1 l hl l.length 0 0 (by omega) (by omega) (by omega) (fun j hj => by omega)
theorem atM_le (a0 : Int) (a1 : Bool) (l : List (List Int)) (c : Int) {B : Nat} (h : ∀ q ∈ l, q.length ≤ B) : (atM a0 a1 l c).length ≤ B := by
  unfold atM
  split
  · simp
  · split
    · simp
    · split
      · unfold rowAt
        split
        · exact getD_len h 0
        · exact getD_len h _
      · simp
theorem mtells_ev (a0 : Int) (a1 : Bool) (R : List (List Int)) (hR : R.length ≤ 9223372036854775807) (x : Int) (l : List Int) (hok : BytesOk l) : Ev (fun k => puncheonlaw16_ModelTells.f k a0 a1 R x l) true := by
  unfold puncheonlaw16_ModelTells.f
  have no : Ev (fun k => puncheonlaw16_ModelTells.j0 k x l true true a0 a1 R) true := by
    refine Ev.step (fun _ => by rw [puncheonlaw16_ModelTells.j0]) ?_
    exact ev_pos rfl (Ev.now _)
  obtain ⟨b, hb, hk⟩ := few_ex a0 a1 R hR
  refine Ev.bind awake16 (Ev.bind hb ?_)
  by_cases h1 : b = true
  · refine ev_pos h1 ?_
    obtain ⟨h2, h3⟩ := hk h1
    by_cases h4 : (l.length : Int) > 80
    · rw [decide_eq_true h4]; exact no
    · rw [decide_eq_false h4]
      have b1 : ∀ q ∈ R, q.length ≤ 4611686018427387000 := fun q hq => by have := h3 q hq; omega
      have b2 : ∀ q ∈ R, q.length ≤ 17592186044416 := fun q hq => by have := h3 q hq; omega
      have hl : l.length ≤ 1099511627776 := by omega
      refine Ev.step (fun _ => by rw [puncheonlaw16_ModelTells.j0]) ?_
      refine ev_neg (by decide) (ev_pos rfl (Ev.bind (mright_ev a0 a1 R b1) (Ev.bind (rref_ev a0 a1 R b1 (by omega)) (ev_pos (by simp) ?_))))
      refine Ev.bind (mat_ev a0 a1 R x b2) (Ev.bind (rat16_ev a0 a1 R x b1 (by omega)) (Ev.bind (ints_ev _ _ (by have := atM_le a0 a1 R x h3; omega)) (ev_pos (decide_eq_true rfl) ?_)))
      exact Ev.bind (fits_ev a0 a1 R b1 l hok hl) (Ev.bind (rfits_ev a0 a1 R b1 (by omega) l hok hl) (ev_eq (Ev.now _) (by simp)))
  · exact ev_neg h1 no
theorem mtells_walk (a0 : Int) (a1 : Bool) (A : Option Addr) (c : Nat) (R : List (List Int)) (x : Int) (b : Option Addr) (len cap : Nat) (zs : List Int) (w : World) (hle : R.length ≤ c) (hC : Kd.C dRow w A R.length R) (hx : (Lit.int .i64 x).wf = true) (h : IsRow .u8 w b len cap zs) (y : len * 1 ≤ 140737488351232) :
    Calls Try.prog 3 #[.agg #[.int .i64 a0, .bool a1, .slice A R.length c], .int .i64 x, .slice b len cap] w fun e w' => e = .returned (.bool true) ∧ Below w.heap.size w w' := by
  obtain ⟨l, rfl, hr, hle2, hwf⟩ := h.reads (by omega)
  obtain ⟨k, hk⟩ := (mtells_ev a0 a1 R hC.2.1 x l (u8s hwf)).rounds
  exact puncheonlaw16_ModelTells.calls k a0 a1 A c R x b cap l true w hC hle (Kd.C_of_reads (readsInt_of.1 hr)) hle2 hk
end Go.Proofs.Ytcffmmdgjifaaaa
