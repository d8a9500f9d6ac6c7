/- Normalized counts in plain: of a log, and those that the statements make. What the printed functions of the layer ctx, and of its reference, come to. A model in plain: what the printed functions of the layer model come to: Right, At, Fits; Zero and First. A model in plain: what the printed functions of the document's answer for the layer model come to. A model in plain: what is true of the models that are made. A model in plain: bytes that are turned round, and bytes that each stand twice. The pure statement of ModelOrder: the list of all hangs on no order of the bytes; bytes that each stand twice in a row have lists that know themselves. -/
import Derived.Test.YtcffmmdgjifaaaaPm
import Derived.Test.YtcffmmdgjifaaaaLw
import Derived.Test.YtcffmmdgjifaaaaCw
import Derived.Test.YtcffmmdgjifaaaaYMore
import Derived.Test.YtcffmmdgjifaaaaPPrx2
import Derived.Test.YtcffmmdgjifaaaaPPrx9
import Derived.Test.YtcffmmdgjifaaaaPPrx7
import Derived.Test.YtcffmmdgjifaaaaPPrx8
import Derived.Test.YtcffmmdgjifaaaaMd
import Derived.Test.YtcffmmdgjifaaaaPPrx13
import Derived.Test.YtcffmmdgjifaaaaPPrx15
import Derived.Test.YtcffmmdgjifaaaaPPrx16
import Derived.Test.YtcffmmdgjifaaaaPPrx17
import Derived.Test.YtcffmmdgjifaaaaPPrx18
namespace Go.Proofs.Ytcffmmdgjifaaaa
open Go.RowKit Go.Proofs.YtcffmmdgjifaaaaW.PrintWords Go.Proofs.YtcffmmdgjifaaaaW.PrintMore PPr
set_option linter.unusedSimpArgs false
set_option linter.unusedVariables false
theorem getD_pos_take (q : List Int) (hl : q.length = 256) (hn : ∀ x, x ∈ q → 0 ≤ x) (s : Nat) : 0 ≤ q.getD s 0 ∧ q.getD s 0 ≤ q.sum := by
  rcases Nat.lt_or_ge s q.length with h | h
  · have h0 := hn _ (getD_memE h)
    have h1 := sum_take_le hn (s + 1)
    rw [take_snocE q s h, List.sum_append] at h1
    have h2 := sum_nonneg (l := q.take s) (fun x hx => hn x (List.mem_of_mem_take hx))
    simp only [List.sum_cons, List.sum_nil] at h1
    omega
  · have : q.getD s 0 = 0 := by rw [List.getD_eq_getElem?_getD, List.getElem?_eq_none h]; rfl
    rw [this]
    exact ⟨Int.le_refl _, sum_nonneg hn⟩
/-- normalized counts, of a log -/
structure IsN (q : List Int) (r : Nat) : Prop where
  r0 : 1 ≤ r
  r1 : r ≤ 12
  R : rightB q = true
  sm : q.sum = 2 ^ r
theorem pow_nat (r : Nat) (h0 : 1 ≤ r) (h : r ≤ 12) : 2 ≤ (2 : Int) ^ r ∧ (2 : Int) ^ r ≤ 4096 := by
  have := pow_bd r (by omega) (by omega)
  rwa [Int.toNat_natCast] at this
theorem lg_spec (t : Int) : ∀ d i, 1 ≤ i → i + d = 13 → (∃ r, i ≤ r ∧ r ≤ 12 ∧ t = 2 ^ r ∧ lg t d i = ((r : Int), true)) ∨ (lg t d i = (0, false))
  | 0, i, _, _ => .inr rfl
  | d + 1, i, h, hd => by
    rw [lg]
    by_cases ht : t = 2 ^ i
    · rw [if_pos ht]; exact .inl ⟨i, Nat.le_refl _, by omega, ht, rfl⟩
    · rw [if_neg ht]
      rcases lg_spec t d (i + 1) (by omega) (by omega) with ⟨r, h1, h2, h3, h4⟩ | h1
      · exact .inl ⟨r, by omega, h2, h3, h4⟩
      · exact .inr h1
/-- a list is normalized counts, or of no log -/
theorem isN_or (q : List Int) : (∃ r, IsN q r ∧ lg (totZ q) 12 1 = ((r : Int), true)) ∨ lg (totZ q) 12 1 = (0, false) := by
  rcases lg_spec (totZ q) 12 1 (by omega) (by omega) with ⟨r, h1, h2, h3, h4⟩ | h
  · refine .inl ⟨r, ?_, h4⟩
    have hp := pow_nat r h1 h2
    unfold totZ at h3
    by_cases hr : rightB q = true
    · rw [if_pos hr] at h3; exact ⟨h1, h2, hr, h3⟩
    · rw [if_neg hr] at h3; omega
  · exact .inr h
theorem IsN.lg {q : List Int} {r : Nat} (h : IsN q r) : lg (totZ q) 12 1 = ((r : Int), true) := by
  have := lg_hit r (by have := h.r0; omega) (by have := h.r1; omega)
  rw [Int.toNat_natCast] at this
  unfold totZ
  rw [if_pos h.R, h.sm]; exact this
end Go.Proofs.Ytcffmmdgjifaaaa
namespace Go.Proofs.Ytcffmmdgjifaaaa
open Go.RowKit Go.Proofs.YtcffmmdgjifaaaaW.PrintWords Go.Proofs.YtcffmmdgjifaaaaW.PrintMore PPr
set_option linter.unusedSimpArgs false
set_option linter.unusedVariables false
def atZ (l : List Int) (a : Int) : Int := if 0 ≤ a ∧ a < (l.length : Int) then ctxAt l a.toNat else -1
def forZ (l : List Int) (c : Int) : List Int := cnt (pickTo l c l.length)
def presZ (l : List Int) : List Int := presTo (metTo l l.length) 256
theorem forZ_len (l : List Int) (c : Int) : (forZ l c).length = 256 := cnt_len _
theorem at_ev (l : List Int) (hok : BytesOk l) (hm : l.length ≤ 1099511627776) (a : Int) (h0 : -9223372036854775808 ≤ a) (h1 : a ≤ 9223372036854775807) : Ev (fun k => ctx_At.f k l a) (atZ l a) := by
  unfold ctx_At.f atZ
  by_cases hn : a < 0
  · rw [if_neg (show ¬ (0 ≤ a ∧ a < (l.length : Int)) by omega)]
    exact ev_pos hn (Ev.step (fun _ => by rw [ctx_At.j0]) (ev_pos rfl (Ev.now _)))
  · refine ev_neg hn (Ev.step (fun _ => by rw [ctx_At.j0]) ?_)
    by_cases h2 : a ≥ (l.length : Int)
    · rw [if_neg (show ¬ (0 ≤ a ∧ a < (l.length : Int)) by omega)]
      exact ev_pos (decide_eq_true h2) (Ev.now _)
    · rw [if_pos (show 0 ≤ a ∧ a < (l.length : Int) by omega)]
      refine ev_neg (by rw [decide_eq_false h2]; simp) ?_
      unfold ctxAt
      by_cases h3 : a = 0
      · rw [if_pos (show a.toNat = 0 by omega)]; exact ev_pos h3 (Ev.now _)
      · rw [if_neg (show ¬ a.toNat = 0 by omega)]
        refine ev_neg h3 ?_
        rw [w64' (x := a - 1) rfl (by omega) (by omega)]
        refine ev_pos (by omega) (ev_pos (by omega) (ev_eq (Ev.now _) ?_))
        have hb := hok.at (a.toNat - 1) (by omega)
        rw [show rd l (a - 1) = l.getD (a.toNat - 1) 0 by unfold rd; rw [show (a - 1).toNat = a.toNat - 1 by omega]]
        exact w64' rfl (by omega) (by omega)
theorem for_eq (l : List Int) (hok : BytesOk l) (hm : l.length ≤ 1099511627776) (c : Int) : ctx_For.f l c = some (forZ l c) := by
  unfold ctx_For.f; rw [if_pos ((okBytes_iff l).2 ⟨hm, hok⟩)]; rfl
theorem pres_eq (l : List Int) (hok : BytesOk l) (hm : l.length ≤ 1099511627776) : ctx_Present.f l = some (presZ l) := by
  unfold ctx_Present.f; rw [if_pos ((okBytes_iff l).2 ⟨hm, hok⟩)]; rfl
/-- the widest of the contexts below k -/
def widTo (l : List Int) : Nat → Int
  | 0 => 0
  | k + 1 => mx (widTo l k) (manyZ (forZ l (k : Int)))
theorem mx_le_left (a b : Int) : a ≤ mx a b := by unfold mx; split <;> omega
theorem mx_le_right (a b : Int) : b ≤ mx a b := by unfold mx; split <;> omega
theorem mx_le (a b c : Int) (h : a ≤ c) (k : b ≤ c) : mx a b ≤ c := by unfold mx; split <;> omega
theorem widTo_bd (l : List Int) : ∀ k, 0 ≤ widTo l k ∧ widTo l k ≤ 256
  | 0 => by simp [widTo]
  | k + 1 => by
    have h1 := widTo_bd l k
    have h2 := manyZ_bd (forZ l (k : Int))
    have h3 := mx_le_left (widTo l k) (manyZ (forZ l (k : Int)))
    have h4 := mx_le _ _ 256 h1.2 h2.2
    rw [widTo]; omega
theorem pick_none (l : List Int) (c : Int) : ∀ i, (∀ j, j < i → ¬ ctxAt l j = c) → pickTo l c i = []
  | 0, _ => rfl
  | i + 1, h => by rw [pickTo_miss l c i (h i (by omega)), pick_none l c i (fun j hj => h j (by omega))]
theorem many_nil : manyZ (cnt []) = 0 := by decide +kernel
theorem miss_many {l : List Int} (hok : BytesOk l) (c : Nat) (hc : c < 256) (h : (metTo l l.length).getD c false = false) : manyZ (forZ l (c : Int)) = 0 := by
  rw [metTo_get hok l.length (Nat.le_refl _) c hc, List.any_eq_false] at h
  unfold forZ
  rw [pick_none l c l.length (fun j hj => by simpa using h j (List.mem_range.2 hj))]
  exact many_nil
theorem wid_fold {l : List Int} (hok : BytesOk l) : ∀ k, k ≤ 256 → (presTo (metTo l l.length) k).foldl (fun a c => mx a (manyZ (forZ l c))) 0 = widTo l k
  | 0, _ => rfl
  | k + 1, hk => by
    cases hb : (metTo l l.length).getD k false with
    | true => rw [presTo_hit _ k hb, List.foldl_append, wid_fold hok k (by omega), List.foldl_cons, List.foldl_nil, widTo]
    | false =>
      rw [presTo_miss _ k hb, wid_fold hok k (by omega), widTo, miss_many hok k (by omega) hb]
      have := widTo_bd l k
      unfold mx; split <;> omega
theorem wid_from (l : List Int) (hok : BytesOk l) (hm : l.length ≤ 1099511627776) (p : List Int) (hp : p.length ≤ 256) : ∀ (d i : Nat), i + d = p.length → Ev (fun k => ctx_Widest.l0 k l ((p.take i).foldl (fun a c => mx a (manyZ (forZ l c))) 0) p (p.length : Int) (i : Int)) (p.foldl (fun a c => mx a (manyZ (forZ l c))) 0)
  | 0, i, hd => by
    refine Ev.step (fun _ => by rw [ctx_Widest.l0]) (ev_neg (by omega) ?_)
    rw [List.take_of_length_le (by omega)]
    exact Ev.now _
  | d + 1, i, hd => by
    refine Ev.step (fun _ => by rw [ctx_Widest.l0]) (ev_pos (by omega) (ev_pos (by omega) (ev_pos (by omega) ?_)))
    rw [rd_nat]
    refine ev_obind (for_eq l hok hm (p.getD i 0)) (Ev.bind (many_ev (forZ l (p.getD i 0)) (by rw [forZ_len]; omega)) ?_)
    have hs : (p.take (i + 1)).foldl (fun a c => mx a (manyZ (forZ l c))) 0 = mx ((p.take i).foldl (fun a c => mx a (manyZ (forZ l c))) 0) (manyZ (forZ l (p.getD i 0))) := by
      rw [take_snocE p i (by omega), List.foldl_append, List.foldl_cons, List.foldl_nil]
    rw [wnext i (by omega), ← hs]
    exact wid_from l hok hm p hp d (i + 1) (by omega)
theorem wid_ev (l : List Int) (hok : BytesOk l) (hm : l.length ≤ 1099511627776) : Ev (fun k => ctx_Widest.f k l) (widTo l 256) := by
  unfold ctx_Widest.f
  refine ev_obind (pres_eq l hok hm) ?_
  have hp := presTo_len (metTo l l.length) 256
  have h := wid_from l hok hm (presZ l) hp _ 0 (Nat.zero_add _)
  rw [show (presZ l).foldl (fun a c => mx a (manyZ (forZ l c))) 0 = widTo l 256 from wid_fold hok 256 (by omega)] at h
  exact h
end Go.Proofs.Ytcffmmdgjifaaaa
namespace Go.Proofs.Ytcffmmdgjifaaaa
open Go.RowKit Go.Proofs.YtcffmmdgjifaaaaW.PrintWords Go.Proofs.YtcffmmdgjifaaaaW.PrintLast Go.Proofs.YtcffmmdgjifaaaaW.PrintMore PPr
set_option linter.unusedSimpArgs false
set_option linter.unusedVariables false
theorem awake16 : Ev (fun k => puncheonlaw16_awake.f k) true := Ev.of (fun k => puncheonlaw16_awake.mono k) (k := 300) (by decide +kernel)
theorem u8s {l : List Int} (h : ∀ x ∈ l, (Lit.int .u8 x).wf = true) : BytesOk l := fun x hx => bounds_u8 (h x hx)
def nrB (q : List Int) (a : Int) : Bool := if (lg (totZ q) 12 1).2 = true then (lg (totZ q) 12 1).1 == a else false
theorem nrB_iff (q : List Int) (a : Int) : nrB q a = true ↔ ∃ r : Nat, a = (r : Int) ∧ IsN q r := by
  unfold nrB
  rcases isN_or q with ⟨r, hN, hlg⟩ | hlg
  · rw [hlg]
    simp only [if_true, beq_iff_eq]
    refine ⟨fun h => ⟨r, h.symm, hN⟩, ?_⟩
    rintro ⟨r', rfl, hN'⟩
    have := hN'.lg
    rw [hlg] at this
    injection this with this
  · rw [hlg]
    simp only [Bool.false_eq_true, if_false, false_iff]
    rintro ⟨r, _, hN⟩
    have := hN.lg
    rw [hlg] at this
    injection this with _ this
    cases this
def badB (a : Int) (q : List Int) : Bool := if (q.length : Int) > 0 then !(nrB q a) else false
theorem bad_ev (a : Int) (q : List Int) (hm : q.length ≤ 4611686018427387000) : Ev (fun k => model_log_bad.f k a q) (badB a q) := by
  unfold model_log_bad.f badB
  by_cases h : (q.length : Int) > 0
  · rw [if_pos h]; exact ev_pos h (Ev.bind (nright_ev q a hm) (Ev.now _))
  · rw [if_neg h]; exact ev_neg h (Ev.now _)
theorem badAt_ev (a : Int) : ∀ (l : List (List Int)), (∀ q ∈ l, q.length ≤ 4611686018427387000) → Ev (fun k => badAt k a l) (l.any (badB a))
  | [], _ => Ev.now _
  | q :: t, h => by
    refine Ev.congr (fun k => by rw [badAt]) (Ev.bind (bad_ev a q (h q (by simp))) ?_)
    rw [List.any_cons]
    cases hb : badB a q with
    | true => exact ev_pos rfl (ev_eq (Ev.now _) rfl)
    | false => exact ev_neg (by decide) (ev_eq (badAt_ev a t (fun x hx => h x (by simp [hx]))) rfl)
def rightM (a0 : Int) (a1 : Bool) (l : List (List Int)) : Bool :=
  if a0 < 1 then false else if 12 < a0 then false else if l.any (badB a0) = true then false else if a1 = true then (if l.length = 1 then decide (0 < (l.getD 0 []).length) else false) else decide (l.length = 256)
theorem mright_ev (a0 : Int) (a1 : Bool) (l : List (List Int)) (hl : ∀ q ∈ l, q.length ≤ 4611686018427387000) : Ev (fun k => model_Right.f k a0 a1 l) (rightM a0 a1 l) := by
  unfold model_Right.f rightF
  by_cases h1 : a0 < 1
  · exact ev_pos h1 (ev_eq (Ev.now _) (by unfold rightM; rw [if_pos h1]))
  · refine ev_neg h1 ?_
    by_cases h2 : 12 < a0
    · exact ev_pos h2 (ev_eq (Ev.now _) (by unfold rightM; rw [if_neg h1, if_pos h2]))
    · refine ev_neg h2 (Ev.bind (badAt_ev a0 l hl) ?_)
      by_cases h3 : l.any (badB a0) = true
      · exact ev_pos h3 (ev_eq (Ev.now _) (by unfold rightM; rw [if_neg h1, if_neg h2, if_pos h3]))
      · refine ev_neg h3 ?_
        by_cases h4 : a1 = true
        · refine ev_pos h4 ?_
          by_cases h5 : l.length = 1
          · exact ev_pos h5 (ev_eq (Ev.now _) (by unfold rightM; rw [if_neg h1, if_neg h2, if_neg h3, if_pos h4, if_pos h5]))
          · exact ev_neg h5 (ev_eq (Ev.now _) (by unfold rightM; rw [if_neg h1, if_neg h2, if_neg h3, if_pos h4, if_neg h5]))
        · exact ev_neg h4 (ev_eq (Ev.now _) (by unfold rightM; rw [if_neg h1, if_neg h2, if_neg h3, if_neg h4]))
/-- what is right -/
structure RightM (a0 : Int) (a1 : Bool) (l : List (List Int)) : Prop where
  lo : 1 ≤ a0
  hi : a0 ≤ 12
  rows : ∀ q ∈ l, 0 < q.length → ∃ r : Nat, a0 = (r : Int) ∧ IsN q r
  one : a1 = true → l.length = 1 ∧ 0 < (l.getD 0 []).length
  all : a1 = false → l.length = 256
theorem rightM_iff (a0 : Int) (a1 : Bool) (l : List (List Int)) : rightM a0 a1 l = true ↔ RightM a0 a1 l := by
  have hany : (¬ l.any (badB a0) = true) ↔ ∀ q ∈ l, 0 < q.length → ∃ r : Nat, a0 = (r : Int) ∧ IsN q r := by
    rw [List.any_eq_true]
    constructor
    · intro h q hq h0
      rw [← nrB_iff]
      cases hn : nrB q a0 with
      | true => rfl
      | false => exact absurd ⟨q, hq, by unfold badB; rw [if_pos (by omega), hn]; rfl⟩ h
    · rintro h ⟨q, hq, hb⟩
      unfold badB at hb
      by_cases h0 : (q.length : Int) > 0
      · rw [if_pos h0, (nrB_iff q a0).2 (h q hq (by omega))] at hb; cases hb
      · rw [if_neg h0] at hb; cases hb
  unfold rightM
  constructor
  · intro h
    by_cases h1 : a0 < 1
    · rw [if_pos h1] at h; cases h
    · rw [if_neg h1] at h
      by_cases h2 : 12 < a0
      · rw [if_pos h2] at h; cases h
      · rw [if_neg h2] at h
        by_cases h3 : l.any (badB a0) = true
        · rw [if_pos h3] at h; cases h
        · rw [if_neg h3] at h
          refine ⟨by omega, by omega, hany.1 h3, fun h4 => ?_, fun h4 => ?_⟩
          · rw [if_pos h4] at h
            by_cases h5 : l.length = 1
            · rw [if_pos h5] at h; exact ⟨h5, of_decide_eq_true h⟩
            · rw [if_neg h5] at h; cases h
          · rw [if_neg (by rw [h4]; simp)] at h; exact of_decide_eq_true h
  · intro h
    rw [if_neg (by have := h.lo; omega), if_neg (by have := h.hi; omega), if_neg (hany.2 h.rows)]
    by_cases h4 : a1 = true
    · rw [if_pos h4, if_pos (h.one h4).1]; exact decide_eq_true (h.one h4).2
    · rw [if_neg h4]; exact decide_eq_true (h.all (by simpa using h4))
/-- a context's list -/
def rowAt (a1 : Bool) (l : List (List Int)) (c : Int) : List Int := if a1 = true then l.getD 0 [] else l.getD c.toNat []
def atM (a0 : Int) (a1 : Bool) (l : List (List Int)) (c : Int) : List Int := if c < 0 then [] else if c ≥ 256 then [] else if rightM a0 a1 l = true then rowAt a1 l c else []
theorem getD_len {l : List (List Int)} {B : Nat} (hl : ∀ q ∈ l, q.length ≤ B) (i : Nat) : (l.getD i []).length ≤ B := by
  rw [List.getD_eq_getElem?_getD]
  rcases Nat.lt_or_ge i l.length with h | h
  · rw [List.getElem?_eq_getElem h]; exact hl _ (List.getElem_mem h)
  · rw [List.getElem?_eq_none h]; simp
theorem clone_eq (q : List Int) (h : q.length ≤ 17592186044416) : slices_Clone_int_int.f q = some q := by unfold slices_Clone_int_int.f; rw [if_pos h]
theorem mat_ev (a0 : Int) (a1 : Bool) (l : List (List Int)) (c : Int) (hl : ∀ q ∈ l, q.length ≤ 17592186044416) : Ev (fun k => model_At.f k a0 a1 l c) (atM a0 a1 l c) := by
  unfold model_At.f atM
  have hno : Ev (fun k => model_At.j0 k c true a0 a1 l) [] := by
    refine Ev.step (fun _ => by rw [model_At.j0]) ?_
    exact ev_pos rfl (Ev.now _)
  by_cases h1 : c < 0
  · rw [if_pos h1]; exact ev_pos h1 hno
  · rw [if_neg h1]
    refine ev_neg h1 ?_
    by_cases h2 : c ≥ 256
    · rw [if_pos h2]; exact ev_pos h2 hno
    · rw [if_neg h2]
      refine ev_neg h2 (Ev.bind (mright_ev a0 a1 l (fun q hq => by have := hl q hq; omega)) ?_)
      cases hr : rightM a0 a1 l with
      | false => exact hno
      | true =>
        have R := (rightM_iff a0 a1 l).1 hr
        refine Ev.step (fun _ => by rw [model_At.j0]) ?_
        refine ev_neg (by decide) ?_
        rw [if_pos rfl]
        unfold rowAt
        cases a1 with
        | true =>
          have h3 := (R.one rfl).1
          refine ev_pos rfl (ev_pos (by omega) (ev_obind (clone_eq _ (getD_len hl 0)) ?_))
          exact ev_eq (Ev.now _) rfl
        | false =>
          have h3 := R.all rfl
          refine ev_neg (by decide) (ev_pos (by omega) (ev_pos (by omega) (ev_obind (clone_eq _ (getD_len hl c.toNat)) ?_)))
          exact ev_eq (Ev.now _) rfl
/-! does a model fit bytes -/
def okAt (a1 : Bool) (l : List (List Int)) (b : List Int) (i : Nat) : Bool := decide (¬ ((rowAt a1 l (ctxAt b i)).length : Int) = 0) && decide (¬ (rowAt a1 l (ctxAt b i)).getD (b.getD i 0).toNat 0 = 0)
def fitFrom (a1 : Bool) (l : List (List Int)) (b : List Int) : Nat → Nat → Bool
  | 0, _ => true
  | d + 1, i => if okAt a1 l b i = true then fitFrom a1 l b d (i + 1) else false
theorem fitFrom_iff (a1 : Bool) (l : List (List Int)) (b : List Int) : ∀ d i, fitFrom a1 l b d i = true ↔ ∀ j, i ≤ j → j < i + d → okAt a1 l b j = true
  | 0, i => by simp only [fitFrom, true_iff]; intro j h1 h2; omega
  | d + 1, i => by
    rw [fitFrom]
    by_cases h : okAt a1 l b i = true
    · rw [if_pos h, fitFrom_iff a1 l b d (i + 1)]
      constructor
      · intro k j h1 h2
        by_cases e : j = i
        · subst e; exact h
        · exact k j (by omega) (by omega)
      · intro k j h1 h2; exact k j (by omega) (by omega)
    · rw [if_neg h]
      constructor
      · intro k; cases k
      · intro k; exact absurd (k i (Nat.le_refl _) (by omega)) h
def fitsM (a0 : Int) (a1 : Bool) (l : List (List Int)) (b : List Int) : Bool := if rightM a0 a1 l = true then fitFrom a1 l b b.length 0 else false
theorem atZ_nat (l : List Int) (i : Nat) (h : i < l.length) : atZ l (i : Int) = ctxAt l i := by
  unfold atZ; rw [if_pos ⟨by omega, by omega⟩, Int.toNat_natCast]
theorem row_len {a0 : Int} {a1 : Bool} {l : List (List Int)} (R : RightM a0 a1 l) (i : Nat) (h : ¬ ((l.getD i []).length : Int) = 0) : (l.getD i []).length = 256 := by
  rw [List.getD_eq_getElem?_getD] at h ⊢
  rcases Nat.lt_or_ge i l.length with hi | hi
  · rw [List.getElem?_eq_getElem hi] at h ⊢
    simp only [Option.getD_some] at h ⊢
    obtain ⟨r, _, hN⟩ := R.rows _ (List.getElem_mem hi) (by omega)
    exact ((rightB_iff _).1 hN.R).1
  · rw [List.getElem?_eq_none hi] at h; simp at h
theorem fits_from {a0 : Int} {a1 : Bool} {l : List (List Int)} (R : RightM a0 a1 l) {b : List Int} (hok : BytesOk b) (hm : b.length ≤ 1099511627776) : ∀ (d i : Nat), i + d = b.length → Ev (fun k => model_Fits.l0 k b b (b.length : Int) (i : Int) a0 a1 l) (fitFrom a1 l b d i)
  | 0, i, h => by
    refine Ev.step (fun _ => by rw [model_Fits.l0]) ?_
    exact ev_neg (by omega) (Ev.now _)
  | d + 1, i, h => by
    have ih := fits_from R hok hm d (i + 1) (by omega)
    have hx := hok.at i (by omega)
    have hc := ctxAt_ok hok i (by omega)
    refine Ev.step (fun _ => by rw [model_Fits.l0]) ?_
    refine ev_pos (by omega) (ev_pos (by omega) (ev_pos (by omega) (Ev.bind (at_ev b hok hm (i : Int) (by omega) (by omega)) ?_)))
    rw [atZ_nat b i (by omega), rd_nat, wnext i (by omega)]
    have fin : ∀ (n : Nat), (l.getD n []) = rowAt a1 l (ctxAt b i) → Ev (fun k => if ((l.getD n []).length : Int) = 0 then (some false) else (if 0 ≤ b.getD i 0 then (if b.getD i 0 < ((l.getD n []).length : Int) then (if (rd (l.getD n []) (b.getD i 0)) = 0 then (some false) else (model_Fits.l0 k b b (b.length : Int) ((i + 1 : Nat) : Int) a0 a1 l)) else (none)) else (none))) (fitFrom a1 l b (d + 1) i) := by
      intro n hn
      rw [fitFrom]
      unfold okAt
      rw [← hn]
      by_cases h0 : ((l.getD n []).length : Int) = 0
      · refine ev_pos h0 (ev_eq (Ev.now _) ?_)
        rw [if_neg (by rw [decide_eq_false (fun h => h h0)]; simp)]
      · have hl := row_len R n h0
        refine ev_neg h0 (ev_pos hx.1 (ev_pos (by omega) ?_))
        by_cases h2 : (l.getD n []).getD (b.getD i 0).toNat 0 = 0
        · refine ev_pos h2 (ev_eq (Ev.now _) ?_)
          rw [if_neg (by rw [decide_eq_true h0, decide_eq_false (fun h => h h2)]; simp)]
        · refine ev_neg h2 (ev_eq ih ?_)
          rw [if_pos (by rw [decide_eq_true h0, decide_eq_true h2]; rfl)]
    cases ha : a1 with
    | true =>
      subst ha
      have h3 := (R.one rfl).1
      exact ev_pos rfl (ev_pos (by omega) (fin 0 (by unfold rowAt; rw [if_pos rfl])))
    | false =>
      subst ha
      have h3 := R.all rfl
      exact ev_neg (by decide) (ev_pos hc.1 (ev_pos (by omega) (fin (ctxAt b i).toNat (by unfold rowAt; rw [if_neg (by decide)]))))
theorem fits_ev (a0 : Int) (a1 : Bool) (l : List (List Int)) (hl : ∀ q ∈ l, q.length ≤ 4611686018427387000) (b : List Int) (hok : BytesOk b) (hm : b.length ≤ 1099511627776) : Ev (fun k => model_Fits.f k a0 a1 l b) (fitsM a0 a1 l b) := by
  unfold model_Fits.f fitsM
  refine Ev.bind (mright_ev a0 a1 l hl) ?_
  by_cases hr : rightM a0 a1 l = true
  · rw [if_pos hr]; exact ev_pos hr (fits_from ((rightM_iff a0 a1 l).1 hr) hok hm b.length 0 (by omega))
  · rw [if_neg hr]; exact ev_neg hr (Ev.now _)
/-! what is made -/
theorem many_tot {c : List Int} (h : ¬ 0 < manyZ c) : totZ c = 0 := by
  unfold manyZ at h
  unfold totZ
  by_cases hr : rightB c = true
  · rw [if_pos hr] at h ⊢
    obtain ⟨_, hn, _⟩ := (rightB_iff c).1 hr
    unfold pos at h
    have hz : ∀ x ∈ c, x = 0 := by
      intro x hx
      have h0 := hn x hx
      by_cases hp : 0 < x
      · have := List.length_pos_of_mem (List.mem_filter.2 ⟨hx, decide_eq_true hp⟩ : x ∈ c.filter fun x => decide (0 < x))
        omega
      · omega
    have hs : ∀ c : List Int, (∀ x ∈ c, x = 0) → c.sum = 0 := by
      intro c
      induction c with
      | nil => intro _; rfl
      | cons x t ih => intro k; rw [List.sum_cons, k x (by simp), ih (fun y hy => k y (by simp [hy]))]; omega
    exact hs c hz
  · rw [if_neg hr]
/-- a list that is made of counts -/
def Row (c : List Int) (r : Int) (q : List Int) : Prop := ∃ e, CntTo c r q e
theorem rows_ex (F : Nat → List Int) (r : Int) : ∀ n, ∃ R : List (List Int), R.length = n ∧ ∀ i, i < n → Row (F i) r (R.getD i [])
  | 0 => ⟨[], rfl, fun i h => by omega⟩
  | n + 1 => by
    obtain ⟨R, h1, h2⟩ := rows_ex F r n
    obtain ⟨q, e, h⟩ := cntTo_ex (F n) r
    refine ⟨R ++ [q], by rw [List.length_append, h1]; rfl, fun i hi => ?_⟩
    rw [List.getD_eq_getElem?_getD]
    by_cases hin : i = n
    · subst hin
      rw [List.getElem?_append_right (by omega), h1, Nat.sub_self]
      exact ⟨e, h⟩
    · rw [List.getElem?_append_left (by omega), ← List.getD_eq_getElem?_getD]
      exact h2 i (by omega)
theorem made_ev (F : Nat → List Int) (r : Int) (R : List (List Int)) : ∀ n, n ≤ R.length → (∀ i, i < n → (F i).length = 256) → (∀ i, i < n → Row (F i) r (R.getD i [])) → Ev (fun k => madeTo k F r n) (R.take n)
  | 0, _, _, _ => by rw [List.take_zero]; exact Ev.now _
  | n + 1, h, hF, hR => by
    have ih := made_ev F r R n (by omega) (fun i hi => hF i (by omega)) (fun i hi => hR i (by omega))
    have hs : R.take (n + 1) = R.take n ++ [R.getD n []] := by
      rw [List.take_succ_eq_append_getElem (by omega), List.getD_eq_getElem?_getD, List.getElem?_eq_getElem (by omega)]; rfl
    have hl := hF n (by omega)
    obtain ⟨e, hq⟩ := hR n (by omega)
    refine Ev.congr (fun k => by rw [madeTo]) (Ev.bind ih (Ev.bind (many_ev (F n) (by omega)) ?_))
    rw [hs]
    by_cases hm : manyZ (F n) > 0
    · exact ev_pos hm (Ev.bind (counts_ev (F n) r (by omega) hq) (Ev.now _))
    · have : ¬ okC (F n) r := fun hk => hk.1 (many_tot hm)
      rw [(hq.no this).1]
      exact ev_neg hm (Ev.now _)
theorem row_bd {c : List Int} {r : Int} {q : List Int} (h : Row c r q) : q.length ≤ 256 := by
  obtain ⟨e, h⟩ := h
  by_cases hk : okC c r
  · have := (norm_facts hk.good.1 (h.yes hk).1).1; omega
  · rw [(h.no hk).1]; simp
theorem rows_bd {F : Nat → List Int} {r : Int} {R : List (List Int)} {n : Nat} (hn : R.length = n) (h : ∀ i, i < n → Row (F i) r (R.getD i [])) : ∀ q ∈ R, q.length ≤ 256 := by
  intro q hq
  obtain ⟨i, hi, rfl⟩ := List.getElem_of_mem hq
  have := row_bd (h i (by omega))
  rwa [List.getD_eq_getElem?_getD, List.getElem?_eq_getElem hi] at this
theorem row_yes {c : List Int} {r : Nat} {q : List Int} (h : Row c (r : Int) q) (hk : okC c (r : Int)) : IsN q r ∧ ∀ s, s < 256 → (0 < q.getD s 0 ↔ 0 < c.getD s 0) := by
  obtain ⟨e, h⟩ := h
  obtain ⟨h1, h2, h3⟩ := norm_facts hk.good.1 (h.yes hk).1
  rw [Int.toNat_natCast] at h2
  have hb := pow_nat r (by have := hk.2.1; omega) (by have := hk.2.2.1; omega)
  refine ⟨⟨by have := hk.2.1; omega, by have := hk.2.2.1; omega, (rightB_iff q).2 ⟨h1, nn_mem h1 (fun s hs => (h3 s hs).1), by omega⟩, h2⟩, fun s hs => (h3 s hs).2⟩
theorem row_no {c : List Int} {r : Int} {q : List Int} (h : Row c r q) (hk : ¬ okC c r) : q = [] := by
  obtain ⟨e, h⟩ := h
  exact (h.no hk).1
theorem okB_of {l : List Int} (hok : BytesOk l) (hm : l.length ≤ 1099511627776) : okBytes l = true := (okBytes_iff l).2 ⟨hm, hok⟩
theorem pick_eq (n m t : Int) (h0 : -9223372036854775808 ≤ n ∧ n ≤ 9223372036854775807) (h1 : 0 ≤ m ∧ m ≤ 256) : logs_Pick.f n m t = some (pic n m t) := by
  unfold logs_Pick.f; rw [if_pos ⟨h0, by omega, by omega⟩]
def zlog (l : List Int) : Int := pic (l.length : Int) (manyZ (cnt l)) 11
theorem zero_ev (l : List Int) (hok : BytesOk l) (hm : l.length ≤ 1099511627776) (h0 : ¬ l.length = 0) {q : List Int} (hq : Row (cnt l) (zlog l) q) : Ev (fun k => model_Zero.f k l) (zlog l, true, [q], 0) := by
  unfold model_Zero.f zeroF
  refine ev_pos (okB_of hok hm) (ev_neg h0 (Ev.bind (many_ev (cnt l) (by rw [cnt_len]; omega)) ?_))
  have hmz := manyZ_bd (cnt l)
  refine ev_obind (pick_eq _ _ _ (by omega) hmz) ?_
  exact Ev.bind (made_ev (fun _ => cnt l) (zlog l) [q] 1 (by simp) (fun _ _ => cnt_len l) (fun i hi => by rw [show i = 0 by omega]; exact hq)) (Ev.now _)
theorem zero_no : Ev (fun k => model_Zero.f k []) (0, false, [], 1) := by
  unfold model_Zero.f zeroF
  exact ev_pos (by decide) (ev_pos rfl (Ev.now _))
def flog (l : List Int) : Int := pic (l.length : Int) (widTo l 256) 9
theorem first_ev (l : List Int) (hok : BytesOk l) (hm : l.length ≤ 1099511627776) (h0 : ¬ l.length = 0) {R : List (List Int)} (hl : R.length = 256) (hR : ∀ i : Nat, i < 256 → Row (forZ l (i : Int)) (flog l) (R.getD i [])) : Ev (fun k => model_First.f k l) (flog l, false, R, 0) := by
  unfold model_First.f firstF
  refine ev_pos (okB_of hok hm) (ev_neg h0 (Ev.bind (wid_ev l hok hm) ?_))
  have hw := widTo_bd l 256
  refine ev_obind (pick_eq _ _ _ (by omega) hw) ?_
  have hmd := made_ev (fun i : Nat => cnt (pickTo l (i : Int) l.length)) (flog l) R 256 (by omega) (fun _ _ => cnt_len _) hR
  rw [List.take_of_length_le (by omega)] at hmd
  exact Ev.bind hmd (Ev.now _)
theorem first_no : Ev (fun k => model_First.f k []) (0, false, [], 1) := by
  unfold model_First.f firstF
  exact ev_pos (by decide) (ev_pos rfl (Ev.now _))
end Go.Proofs.Ytcffmmdgjifaaaa
namespace Go.Proofs.Ytcffmmdgjifaaaa
open Go.RowKit Go.Proofs.YtcffmmdgjifaaaaW.PrintWords Go.Proofs.YtcffmmdgjifaaaaW.PrintLast Go.Proofs.YtcffmmdgjifaaaaW.PrintMore PPr
set_option linter.unusedSimpArgs false
set_option linter.unusedVariables false
theorem rightM_no {a0 : Int} {a1 : Bool} {l : List (List Int)} (h : RightM a0 a1 l → False) : rightM a0 a1 l = false := by
  cases hr : rightM a0 a1 l with
  | false => rfl
  | true => exact absurd ((rightM_iff a0 a1 l).1 hr) h
theorem same_from (a : Int) (b : Bool) (l : List (List Int)) (hl : ∀ q ∈ l, q.length ≤ 4611686018427387000) (hn : l.length ≤ 4611686018427387000) : ∀ (d i : Nat), i + d = l.length → Ev (fun k => puncheonref16_Same.l0 k (i : Int) a b l a b l) true
  | 0, i, h => by
    refine Ev.step (fun _ => by rw [puncheonref16_Same.l0]) ?_
    exact ev_neg (by omega) (Ev.now _)
  | d + 1, i, h => by
    have ih := same_from a b l hl hn d (i + 1) (by omega)
    refine Ev.step (fun _ => by rw [puncheonref16_Same.l0]) ?_
    refine ev_pos (by omega) (ev_pos (by omega) (ev_pos (by omega) (Ev.bind (ints_ev (l.getD i []) (l.getD i []) (getD_len hl i)) (ev_pos (decide_eq_true rfl) ?_))))
    rw [wnext i (by omega)]
    exact ih
theorem same_ev (a : Int) (b : Bool) (l : List (List Int)) (hl : ∀ q ∈ l, q.length ≤ 4611686018427387000) (hn : l.length ≤ 4611686018427387000) : Ev (fun k => puncheonref16_Same.f k a b l a b l) true := by
  unfold puncheonref16_Same.f
  refine ev_pos rfl (ev_neg (by simp) ?_)
  rw [show ((l.length : Int) != (l.length : Int)) = false by rw [bne_eq_false_iff_eq]]
  refine Ev.step (fun _ => by rw [puncheonref16_Same.j0]) ?_
  exact ev_neg (by decide) (same_from a b l hl hn l.length 0 (by omega))
end Go.Proofs.Ytcffmmdgjifaaaa
namespace Go.Proofs.Ytcffmmdgjifaaaa
open Go.RowKit Go.Proofs.YtcffmmdgjifaaaaW.PrintWords Go.Proofs.YtcffmmdgjifaaaaW.PrintLast Go.Proofs.YtcffmmdgjifaaaaW.PrintMore PPr
set_option linter.unusedSimpArgs false
set_option linter.unusedVariables false
theorem pic_ok (n many t : Int) (ht : 8 ≤ t) (ht2 : t ≤ 12) (hm2 : many ≤ 256) : ∃ K : Nat, pic n many t = K ∧ 5 ≤ K ∧ (K : Int) ≤ t ∧ many ≤ p2 K := by
  have hc := cei_bd many
  have hf := fll_bd n
  have c8 := cei_le many 8 (by rw [show p2 8 = 256 from by decide]; omega) (by omega)
  have hK : 5 ≤ pic n many t ∧ pic n many t ≤ t ∧ cei many ≤ pic n many t := by
    unfold pic mx2
    (repeat' split) <;> omega
  refine ⟨(pic n many t).toNat, by omega, by omega, by omega, ?_⟩
  by_cases h1 : 2 ≤ many
  · obtain ⟨x, y, z⟩ := cei_spec many h1 (by omega)
    have := p2_mono (show (cei many).toNat ≤ (pic n many t).toNat by omega)
    omega
  · have := p2_pos (pic n many t).toNat
    omega
theorem zlog_ok (l : List Int) : ∃ K : Nat, zlog l = K ∧ 5 ≤ K ∧ K ≤ 11 ∧ manyZ (cnt l) ≤ p2 K := by
  obtain ⟨K, h1, h2, h3, h4⟩ := pic_ok (l.length : Int) (manyZ (cnt l)) 11 (by omega) (by omega) (manyZ_bd _).2
  exact ⟨K, h1, h2, by omega, h4⟩
theorem p2_pow (K : Nat) : (2 : Int) ^ (K : Int).toNat = p2 K := by rw [Int.toNat_natCast]; exact pow_p2 K
theorem okC_zero {l : List Int} (hok : BytesOk l) (hm : l.length ≤ 1073741824) (h0 : ¬ l.length = 0) {K : Nat} (h5 : 5 ≤ K) (h11 : K ≤ 12) (h : manyZ (cnt l) ≤ p2 K) : okC (cnt l) (K : Int) :=
  ⟨by rw [cnt_tot l hok hm]; omega, by omega, by omega, by rw [p2_pow]; exact h⟩
/-- the model of all -/
structure ZeroM (l : List Int) (K : Nat) (q : List Int) : Prop where
  N : IsN q K
  lo : 5 ≤ K
  hi : K ≤ 11
  sup : ∀ s, s < 256 → (0 < q.getD s 0 ↔ 0 < (cnt l).getD s 0)
theorem zero_ex (l : List Int) (hok : BytesOk l) (hm : l.length ≤ 1073741824) (h0 : ¬ l.length = 0) : ∃ (K : Nat) (q : List Int), ZeroM l K q ∧ Row (cnt l) (zlog l) q ∧ Ev (fun k => model_Zero.f k l) ((K : Int), true, [q], 0) := by
  obtain ⟨K, hK, h5, h11, hmany⟩ := zlog_ok l
  obtain ⟨q, e, hq⟩ := cntTo_ex (cnt l) (zlog l)
  have hE := zero_ev l hok (by omega) h0 (⟨e, hq⟩ : Row (cnt l) (zlog l) q)
  rw [hK] at hE
  have hrow : Row (cnt l) (K : Int) q := ⟨e, by rw [← hK]; exact hq⟩
  obtain ⟨hN, hs⟩ := row_yes hrow (okC_zero hok hm h0 h5 (by omega) hmany)
  exact ⟨K, q, ⟨hN, h5, h11, hs⟩, ⟨e, hq⟩, hE⟩
theorem ZeroM.right {l : List Int} {K : Nat} {q : List Int} (h : ZeroM l K q) : RightM (K : Int) true [q] := by
  have hl := ((rightB_iff q).1 h.N.R).1
  refine ⟨by have := h.lo; omega, by have := h.hi; omega, fun x hx _ => ?_, fun _ => ⟨rfl, ?_⟩, fun h => by cases h⟩
  · rw [List.mem_singleton] at hx; subst hx; exact ⟨K, rfl, h.N⟩
  · show 0 < q.length; omega
theorem flog_ok (l : List Int) : ∃ K : Nat, flog l = K ∧ 5 ≤ K ∧ K ≤ 9 ∧ widTo l 256 ≤ p2 K := by
  obtain ⟨K, h1, h2, h3, h4⟩ := pic_ok (l.length : Int) (widTo l 256) 9 (by omega) (by omega) (widTo_bd l 256).2
  exact ⟨K, h1, h2, by omega, h4⟩
theorem forZ_facts {l : List Int} (hok : BytesOk l) (c : Int) : BytesOk (pickTo l c l.length) ∧ (pickTo l c l.length).length ≤ l.length :=
  ⟨pickTo_ok hok c _ (Nat.le_refl _), pickTo_len l c _⟩
theorem forZ_right {l : List Int} (hok : BytesOk l) (hm : l.length ≤ 1073741824) (c : Int) : rightB (forZ l c) = true :=
  cnt_right _ (forZ_facts hok c).1 (by have := (forZ_facts hok c).2; omega)
theorem forZ_tot {l : List Int} (hok : BytesOk l) (hm : l.length ≤ 1073741824) (c : Int) : totZ (forZ l c) = ((pickTo l c l.length).length : Int) :=
  cnt_tot _ (forZ_facts hok c).1 (by have := (forZ_facts hok c).2; omega)
theorem wid_le {l : List Int} (c : Nat) : ∀ k, c < k → manyZ (forZ l (c : Int)) ≤ widTo l k
  | 0, h => by omega
  | k + 1, h => by
    rw [widTo]
    by_cases e : c = k
    · subst e; exact mx_le_right _ _
    · have := wid_le (l := l) c k (by omega)
      have := mx_le_left (widTo l k) (manyZ (forZ l (k : Int)))
      omega
/-- the model by contexts -/
structure FirstM (l : List Int) (K : Nat) (R : List (List Int)) : Prop where
  len : R.length = 256
  lo : 5 ≤ K
  hi : K ≤ 9
  no : ∀ c : Nat, c < 256 → totZ (forZ l (c : Int)) = 0 → R.getD c [] = []
  N : ∀ c : Nat, c < 256 → ¬ totZ (forZ l (c : Int)) = 0 → IsN (R.getD c []) K
  sup : ∀ c : Nat, c < 256 → ¬ totZ (forZ l (c : Int)) = 0 → ∀ s, s < 256 → (0 < (R.getD c []).getD s 0 ↔ 0 < (forZ l (c : Int)).getD s 0)
theorem first_ex (l : List Int) (hok : BytesOk l) (hm : l.length ≤ 1073741824) (h0 : ¬ l.length = 0) : ∃ (K : Nat) (R : List (List Int)), FirstM l K R ∧ (∀ i : Nat, i < 256 → Row (forZ l (i : Int)) (flog l) (R.getD i [])) ∧ Ev (fun k => model_First.f k l) ((K : Int), false, R, 0) := by
  obtain ⟨K, hK, h5, h9, hw⟩ := flog_ok l
  obtain ⟨R, hl, hR⟩ := rows_ex (fun i => forZ l (i : Int)) (flog l) 256
  have hE := first_ev l hok (by omega) h0 hl hR
  rw [hK] at hE
  have hY : ∀ c : Nat, c < 256 → ¬ totZ (forZ l (c : Int)) = 0 → IsN (R.getD c []) K ∧ ∀ s, s < 256 → (0 < (R.getD c []).getD s 0 ↔ 0 < (forZ l (c : Int)).getD s 0) := by
    intro c hc ht
    have hr := hR c hc
    rw [hK] at hr
    exact row_yes hr ⟨ht, by omega, by omega, by rw [p2_pow]; have := wid_le (l := l) c 256 hc; omega⟩
  refine ⟨K, R, ⟨hl, h5, h9, fun c hc ht => row_no (hR c hc) (fun hk => hk.1 ht), fun c hc ht => (hY c hc ht).1, fun c hc ht => (hY c hc ht).2⟩, hR, hE⟩
theorem FirstM.right {l : List Int} {K : Nat} {R : List (List Int)} (h : FirstM l K R) : RightM (K : Int) false R := by
  refine ⟨by have := h.lo; omega, by have := h.hi; omega, fun q hq h0 => ?_, fun h => (by cases h), fun _ => h.len⟩
  obtain ⟨c, hc, rfl⟩ := List.getElem_of_mem hq
  have e : R[c] = R.getD c [] := by rw [List.getD_eq_getElem?_getD, List.getElem?_eq_getElem hc]; rfl
  rw [e] at h0 ⊢
  rw [h.len] at hc
  by_cases ht : totZ (forZ l (c : Int)) = 0
  · rw [h.no c hc ht] at h0; simp at h0
  · exact ⟨K, rfl, h.N c hc ht⟩
theorem FirstM.bd {l : List Int} {K : Nat} {R : List (List Int)} (h : FirstM l K R) : ∀ q ∈ R, q.length ≤ 256 := by
  intro q hq
  rcases Nat.eq_zero_or_pos q.length with h0 | h0
  · omega
  · obtain ⟨r, _, hN⟩ := h.right.rows q hq h0
    have := ((rightB_iff q).1 hN.R).1
    omega
end Go.Proofs.Ytcffmmdgjifaaaa
namespace Go.Proofs.Ytcffmmdgjifaaaa
open Go.RowKit Go.Proofs.YtcffmmdgjifaaaaW.PrintWords Go.Proofs.YtcffmmdgjifaaaaW.PrintLast Go.Proofs.YtcffmmdgjifaaaaW.PrintMore PPr
set_option linter.unusedSimpArgs false
set_option linter.unusedVariables false
def rot (l : List Int) (k : Nat) : List Int := l.drop k ++ l.take k
theorem rot_len (l : List Int) (k : Nat) : (rot l k).length = l.length := by
  unfold rot; rw [List.length_append, List.length_drop, List.length_take]; omega
theorem rot_ok {l : List Int} (h : BytesOk l) (k : Nat) : BytesOk (rot l k) := by
  intro x hx
  unfold rot at hx
  rw [List.mem_append] at hx
  exact hx.elim (fun hx => h x (List.mem_of_mem_drop hx)) (fun hx => h x (List.mem_of_mem_take hx))
theorem rot_cnt (l : List Int) (k : Nat) : cnt (rot l k) = cnt l := by
  unfold cnt
  apply List.map_congr_left
  intro v _
  have e : l.count (v : Int) = (l.take k ++ l.drop k).count (v : Int) := by rw [List.take_append_drop]
  unfold rot
  rw [e, List.count_append, List.count_append]
  omega
theorem rot_log (l : List Int) (k : Nat) : zlog (rot l k) = zlog l := by unfold zlog; rw [rot_cnt, rot_len]
/-- each byte twice -/
def dbl (l : List Int) : List Int := l.flatMap fun x => [x, x]
theorem dbl_len : ∀ l : List Int, (dbl l).length = 2 * l.length
  | [] => rfl
  | x :: t => by
    have ih := dbl_len t
    unfold dbl at ih ⊢
    rw [List.flatMap_cons, List.length_append, ih]; simp; omega
theorem dbl_snoc (l : List Int) (x : Int) : dbl (l ++ [x]) = dbl l ++ [x, x] := by unfold dbl; simp
theorem dbl_ok {l : List Int} (h : BytesOk l) : BytesOk (dbl l) := by
  intro x hx
  unfold dbl at hx
  obtain ⟨y, hy, hxy⟩ := List.mem_flatMap.1 hx
  simp at hxy
  subst hxy
  exact h x hy
theorem dbl_get : ∀ (l : List Int) (k : Nat), k < l.length → (dbl l).getD (2 * k) 0 = l.getD k 0 ∧ (dbl l).getD (2 * k + 1) 0 = l.getD k 0
  | x :: t, 0, _ => ⟨rfl, rfl⟩
  | x :: t, k + 1, h => by
    have ih := dbl_get t k (by simpa using h)
    have e : dbl (x :: t) = x :: x :: dbl t := rfl
    rw [e, show 2 * (k + 1) = 2 * k + 1 + 1 by omega]
    simpa using ih
theorem pick_memO (l : List Int) (i : Nat) : ∀ n, i < n → l.getD i 0 ∈ pickTo l (ctxAt l i) n
  | 0, h => by omega
  | n + 1, h => by
    by_cases e : i = n
    · subst e
      rw [pickTo_hit l _ i rfl]
      exact List.mem_append_right _ (List.mem_singleton.2 rfl)
    · rw [pickTo]
      exact List.mem_append_left _ (pick_memO l i n (by omega))
/-- a byte that stands twice in a row has a list that knows it -/
theorem twice {l : List Int} (hok : BytesOk l) (hm : l.length ≤ 100000) (k : Nat) (hk : k < l.length) {L : Nat} {R : List (List Int)} (h : FirstM (dbl l) L R) : (R.getD (l.getD k 0).toNat []).length = 256 ∧ 0 < (R.getD (l.getD k 0).toNat []).getD (l.getD k 0).toNat 0 := by
  have hx := hok.at k hk
  obtain ⟨c, hc⟩ : ∃ c : Nat, l.getD k 0 = c := ⟨(l.getD k 0).toNat, by omega⟩
  rw [hc] at hx ⊢
  rw [Int.toNat_natCast]
  obtain ⟨g0, g1⟩ := dbl_get l k hk
  have hl := dbl_len l
  have hctx : ctxAt (dbl l) (2 * k + 1) = (c : Int) := by
    unfold ctxAt; rw [if_neg (by omega), Nat.add_sub_cancel, g0, hc]
  have hmem := pick_memO (dbl l) (2 * k + 1) (dbl l).length (by omega)
  rw [hctx, g1, hc] at hmem
  have hok2 := dbl_ok hok
  have hne : ¬ totZ (forZ (dbl l) (c : Int)) = 0 := by
    rw [forZ_tot hok2 (by omega)]
    have := List.length_pos_of_mem hmem
    omega
  have hN := h.N c (by omega) hne
  have hs := h.sup c (by omega) hne c (by omega)
  rw [forZ, cnt_get _ _ (by omega)] at hs
  have hp := List.count_pos_iff.2 hmem
  exact ⟨((rightB_iff _).1 hN.R).1, hs.2 (by omega)⟩
theorem zero_ex2 (l : List Int) (hok : BytesOk l) (hm : l.length ≤ 1073741824) (h0 : ¬ l.length = 0) : ∃ (K : Nat) (q : List Int), ZeroM l K q ∧ Row (cnt l) (zlog l) q ∧ zlog l = (K : Int) := by
  obtain ⟨K, hK, h5, h11, hmany⟩ := zlog_ok l
  obtain ⟨q, e, hq⟩ := cntTo_ex (cnt l) (zlog l)
  have hrow : Row (cnt l) (K : Int) q := ⟨e, by rw [← hK]; exact hq⟩
  obtain ⟨hN, hs⟩ := row_yes hrow (okC_zero hok hm h0 h5 (by omega) hmany)
  exact ⟨K, q, ⟨hN, h5, h11, hs⟩, ⟨e, hq⟩, hK⟩
theorem zero_rot (l : List Int) (hok : BytesOk l) (hm : l.length ≤ 1073741824) (h0 : ¬ l.length = 0) (k : Nat) {K : Nat} {q : List Int} (hq : Row (cnt l) (zlog l) q) (eK : zlog l = (K : Int)) : Ev (fun n => model_Zero.f n (rot l k)) ((K : Int), true, [q], 0) := by
  have := zero_ev (rot l k) (rot_ok hok k) (by rw [rot_len]; omega) (by rw [rot_len]; exact h0) (q := q) (by rw [rot_cnt, rot_log]; exact hq)
  rw [rot_log, eK] at this
  exact this
theorem first_ex2 (l : List Int) (hok : BytesOk l) (hm : l.length ≤ 1073741824) (h0 : ¬ l.length = 0) : ∃ (K : Nat) (R : List (List Int)), FirstM l K R ∧ (∀ i : Nat, i < 256 → Row (forZ l (i : Int)) (flog l) (R.getD i [])) ∧ flog l = (K : Int) := by
  obtain ⟨K, hK, h5, h9, hw⟩ := flog_ok l
  obtain ⟨R, hl, hR⟩ := rows_ex (fun i => forZ l (i : Int)) (flog l) 256
  have hY : ∀ c : Nat, c < 256 → ¬ totZ (forZ l (c : Int)) = 0 → IsN (R.getD c []) K ∧ ∀ s, s < 256 → (0 < (R.getD c []).getD s 0 ↔ 0 < (forZ l (c : Int)).getD s 0) := by
    intro c hc ht
    have hr := hR c hc
    rw [hK] at hr
    exact row_yes hr ⟨ht, by omega, by omega, by rw [p2_pow]; have := wid_le (l := l) c 256 hc; omega⟩
  exact ⟨K, R, ⟨hl, h5, h9, fun c hc ht => row_no (hR c hc) (fun hk => hk.1 ht), fun c hc ht => (hY c hc ht).1, fun c hc ht => (hY c hc ht).2⟩, hR, hK⟩
end Go.Proofs.Ytcffmmdgjifaaaa
namespace Go.Proofs.Ytcffmmdgjifaaaa.Pure
open Go.RowKit Go.Proofs.Ytcffmmdgjifaaaa Go.Proofs.Ytcffmmdgjifaaaa.PPr Go.Proofs.YtcffmmdgjifaaaaW.PrintWords Go.Proofs.YtcffmmdgjifaaaaW.PrintLast Go.Proofs.YtcffmmdgjifaaaaW.PrintMore
theorem order_from {l : List Int} (hok : BytesOk l) (hm : l.length ≤ 40) (h0 : ¬ l.length = 0) (k : Nat) (hk : k < l.length) {K : Nat} {q : List Int} (hq : q.length ≤ 256) {L : Nat} {R : List (List Int)} (hF : FirstM (dbl l) L R) (hE : Ev (fun n => model_First.f n (dbl l)) ((L : Int), false, R, 0)) :
    ∀ (d i : Nat), i + d = l.length → Ev (fun n => puncheonlaw16_ModelOrder.l0 n l true (k : Int) 0 0 (dbl (l.take i)) (i : Int) (K : Int) true [q] (K : Int) true [q]) true
  | 0, i, h => by
    refine Ev.step (fun _ => by rw [puncheonlaw16_ModelOrder.l0]) ?_
    rw [show l.take i = l from List.take_of_length_le (by omega)]
    have hx := hok.at k hk
    obtain ⟨t1, t2⟩ := twice hok (by omega) k hk hF
    have hR1 : ∀ y ∈ R, y.length ≤ 17592186044416 := fun y hy => by have := hF.bd y hy; omega
    have mA := mat_ev (L : Int) false R (l.getD k 0) hR1
    have eA : atM (L : Int) false R (l.getD k 0) = R.getD (l.getD k 0).toNat [] := by
      unfold atM; rw [if_neg (by omega), if_neg (by omega), if_pos ((rightM_iff _ _ _).2 hF.right)]; unfold rowAt; rw [if_neg (by decide)]
    rw [eA] at mA
    have wx : wrap64 (rd l (k : Int)) = l.getD k 0 := by rw [rd_nat]; exact w64' rfl (by omega) (by omega)
    have hq1 : ∀ x ∈ [q], x.length ≤ 4611686018427387000 := fun x hx => by
      rw [List.mem_singleton] at hx; subst hx; omega
    refine ev_neg (by omega) (Ev.bind hE (ev_pos (by omega) (ev_pos (by omega) ?_)))
    rw [wx]
    refine Ev.bind mA (ev_pos (by omega) (ev_pos rfl (ev_pos rfl (ev_pos rfl (ev_pos rfl (Ev.bind (same_ev (K : Int) true [q] hq1 (by simp)) (ev_pos rfl ?_)))))))
    rw [rd_nat]
    refine ev_pos hx.1 (ev_pos (by omega) (ev_eq (Ev.now _) ?_))
    exact decide_eq_true t2
  | d + 1, i, h => by
    have ih := order_from hok hm h0 k hk (K := K) hq hF hE d (i + 1) (by omega)
    have hd := dbl_len (l.take i)
    have ht := List.length_take (i := i) (l := l)
    refine Ev.step (fun _ => by rw [puncheonlaw16_ModelOrder.l0]) ?_
    refine ev_pos (by omega) (ev_pos (by omega) (ev_obind rfl (ev_pos (by simp; omega) ?_)))
    rw [rd_nat, wnext i (by omega), ← dbl_snoc, ← take_snocE l i (by omega)]
    exact ih
theorem ModelOrder : puncheonlaw16_ModelOrder.Pure := by
  intro l a hm hs hw ha
  have hok := u8s hw
  have ha := bounds_u8 ha
  refine ev_bool (b := true) ?_ rfl
  unfold puncheonlaw16_ModelOrder.f
  refine Ev.bind awake16 ?_
  have no : Ev (fun k => puncheonlaw16_ModelOrder.j0 k l a true true) true := by
    refine Ev.step (fun _ => by rw [puncheonlaw16_ModelOrder.j0]) ?_
    exact ev_pos rfl (Ev.now _)
  by_cases hb : (l.length : Int) > 40
  · exact ev_pos hb no
  · refine ev_neg hb ?_
    by_cases h0 : (l.length : Int) = 0
    · rw [show ((l.length : Int) == 0) = true by rw [beq_iff_eq]; exact h0]; exact no
    · rw [show ((l.length : Int) == 0) = false by rw [beq_eq_false_iff_ne]; exact h0]
      have h0' : ¬ l.length = 0 := by omega
      have t0 : 0 ≤ Int.tmod a (l.length : Int) := Int.tmod_nonneg _ ha.1
      have t1 : Int.tmod a (l.length : Int) < (l.length : Int) := Int.tmod_lt_of_pos _ (by omega)
      have wa : wrap64 a = a := w64' rfl (by omega) (by omega)
      obtain ⟨k, hk⟩ : ∃ k : Nat, Int.tmod a (l.length : Int) = k := ⟨(Int.tmod a (l.length : Int)).toNat, by omega⟩
      obtain ⟨K, q, hZ, hq, eK⟩ := zero_ex2 l hok (by omega) h0'
      have hE := zero_ev l hok (by omega) h0' hq
      rw [eK] at hE
      have hrot := zero_rot l hok (by omega) h0' k hq eK
      have dl := dbl_len l
      obtain ⟨L, R, hF, _, hE2⟩ := first_ex (dbl l) (dbl_ok hok) (by omega) (by omega)
      have ql := ((rightB_iff q).1 hZ.N.R).1
      have hlen := List.length_drop (i := k) (l := l)
      have hlen2 := List.length_take (i := k) (l := l)
      refine Ev.step (fun _ => by rw [puncheonlaw16_ModelOrder.j0]) ?_
      rw [wa, hk, Int.toNat_natCast]
      refine ev_neg (by decide) (ev_neg (by omega) (Ev.bind hE (ev_obind rfl (ev_pos (by omega) (ev_pos (by omega) (ev_pos (by simp; omega) (ev_obind rfl (ev_pos (by simp; omega) ?_))))))))
      rw [List.nil_append]
      refine Ev.bind hrot ?_
      have := order_from hok (by omega) h0' k (by omega) (K := K) (q := q) (by omega) hF hE2 l.length 0 (by omega)
      rw [List.take_zero] at this
      exact this
end Go.Proofs.Ytcffmmdgjifaaaa.Pure
