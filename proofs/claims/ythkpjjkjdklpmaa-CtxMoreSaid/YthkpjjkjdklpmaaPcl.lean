/- Facts of contexts that the laws of the layer ctx ask. -/
import Derived.Test.YthkpjjkjdklpmaaPc
import Derived.Test.YthkpjjkjdklpmaaPPrx6
import Derived.Test.YthkpjjkjdklpmaaPPrx11
namespace Go.Proofs.Ythkpjjkjdklpmaa
open Go.RowKit Go.Proofs.YthkpjjkjdklpmaaW.PrintWords Go.Proofs.YthkpjjkjdklpmaaW.PrintMore PPr
set_option linter.unusedSimpArgs false
set_option linter.unusedVariables false
theorem awake06 : Ev (fun k => puncheonlaw06_awake.f k) true := Ev.of (fun k => puncheonlaw06_awake.mono k) (k := 300) (by decide +kernel)
theorem u8s {l : List Int} (h : ∀ x ∈ l, (Lit.int .u8 x).wf = true) : BytesOk l := fun x hx => bounds_u8 (h x hx)
theorem sum_addL (a b : List Int) (ha : a.length = 256) (hb : b.length = 256) : (addL a b).sum = a.sum + b.sum :=
  sum_add a b (addL a b) (by omega) (by rw [addL_len]; omega) (fun i hi => addL_get a b i (by omega))
/-- the first k numbers added -/
def addK (a b : List Int) (k : Nat) : List Int := (List.range 256).map fun i => if i < k then a.getD i 0 + b.getD i 0 else 0
theorem addK_len (a b : List Int) (k : Nat) : (addK a b k).length = 256 := by simp [addK]
theorem addK_get (a b : List Int) (k i : Nat) (h : i < 256) : (addK a b k).getD i 0 = if i < k then a.getD i 0 + b.getD i 0 else 0 := by
  simp [addK, List.getD_eq_getElem?_getD, List.getElem?_map, List.getElem?_range h]
theorem addK_0 (a b : List Int) : addK a b 0 = List.replicate 256 0 := by
  apply ext_getDE
  · rw [addK_len, List.length_replicate]
  · intro i hi
    rw [addK_len] at hi
    rw [addK_get _ _ _ _ hi, if_neg (by omega)]
    rw [List.getD_eq_getElem?_getD, List.getElem?_replicate, if_pos hi]; rfl
theorem addK_all (a b : List Int) : addK a b 256 = addL a b := by
  apply ext_getDE
  · rw [addK_len, addL_len]
  · intro i hi
    rw [addK_len] at hi
    rw [addK_get _ _ _ _ hi, if_pos hi, addL_get _ _ _ hi]
theorem addK_set (a b : List Int) (k : Nat) (h : k < 256) : (addK a b k).set k (a.getD k 0 + b.getD k 0) = addK a b (k + 1) := by
  apply ext_getDE
  · rw [List.length_set, addK_len, addK_len]
  · intro i hi
    rw [List.length_set, addK_len] at hi
    rw [getD_set _ _ _ _ (by rw [addK_len]; exact h), addK_get _ _ _ _ hi, addK_get _ _ _ _ hi]
    by_cases e : k = i
    · subst e; rw [if_pos rfl, if_pos (by omega)]
    · rw [if_neg e]
      by_cases e2 : i < k
      · rw [if_pos e2, if_pos (by omega)]
      · rw [if_neg e2, if_neg (by omega)]
theorem right_get {a : List Int} (h : rightB a = true) (i : Nat) (hi : i < 256) : 0 ≤ a.getD i 0 ∧ a.getD i 0 ≤ 1073741824 := by
  obtain ⟨h1, h2, h3⟩ := (rightB_iff a).1 h
  have h4 := sum_take_le h2 (i + 1)
  have h5 := sum_nonneg (l := a.take i) (fun x hx => h2 x (List.mem_of_mem_take hx))
  have h6 := h2 _ (getD_memE (show i < a.length by omega))
  rw [take_snocE a i (by omega), List.sum_append, List.sum_cons, List.sum_nil] at h4
  omega
theorem add_from (a b : List Int) (ha : rightB a = true) (hb : rightB b = true) (hs : a.sum + b.sum ≤ 1073741824) : ∀ (d i : Nat), i + d = 256 → Ev (fun k => hist_Add.l0 k a b (addK a b i) 256 (i : Int)) (addL a b, true)
  | 0, i, hd => by
    refine Ev.step (fun _ => by rw [hist_Add.l0]) (ev_neg (by omega) ?_)
    obtain rfl : i = 256 := by omega
    rw [addK_all]
    refine Ev.bind (right_ev _ (by rw [addL_len]; omega)) (ev_pos ?_ (Ev.now _))
    rw [addL_right a b ha hb]; exact decide_eq_true hs
  | d + 1, i, hd => by
    have h1 := right_get ha i (by omega)
    have h2 := right_get hb i (by omega)
    have h3 := ((rightB_iff a).1 ha).1
    have h4 := ((rightB_iff b).1 hb).1
    refine Ev.step (fun _ => by rw [hist_Add.l0]) (ev_pos (by omega) (ev_pos (by omega) (ev_pos (by omega) (ev_pos (by omega) (ev_pos (by rw [addK_len]; omega) ?_)))))
    rw [rd_nat, rd_nat, wnext i (by omega), w64' (x := a.getD i 0 + b.getD i 0) rfl (by omega) (by omega), Int.toNat_natCast, addK_set a b i (by omega)]
    exact add_from a b ha hb hs d (i + 1) (by omega)
theorem add_ev (a b : List Int) (ha : rightB a = true) (hb : rightB b = true) (hs : a.sum + b.sum ≤ 1073741824) : Ev (fun k => hist_Add.f k a b) (addL a b, true) := by
  unfold hist_Add.f
  refine Ev.bind (right_ev a (by rw [((rightB_iff a).1 ha).1]; omega)) (ev_pos ha (Ev.bind (right_ev b (by rw [((rightB_iff b).1 hb).1]; omega)) ?_))
  rw [hb]
  refine Ev.step (fun _ => by rw [hist_Add.j0]) (ev_neg (by simp) (ev_pos (by omega) (ev_obind rfl ?_)))
  have h := add_from a b ha hb hs 256 0 (by omega)
  rw [addK_0] at h
  rw [List.length_replicate]
  exact h
theorem forZ_facts {l : List Int} (hok : BytesOk l) (c : Int) : BytesOk (pickTo l c l.length) ∧ (pickTo l c l.length).length ≤ l.length :=
  ⟨pickTo_ok hok c _ (Nat.le_refl _), pickTo_len l c _⟩
theorem forZ_right {l : List Int} (hok : BytesOk l) (hm : l.length ≤ 1073741824) (c : Int) : rightB (forZ l c) = true :=
  cnt_right _ (forZ_facts hok c).1 (by have := (forZ_facts hok c).2; omega)
theorem forZ_sum {l : List Int} (hok : BytesOk l) (c : Int) : (forZ l c).sum = (pickTo l c l.length).length := cnt_sum _ (forZ_facts hok c).1
theorem forZ_many {l : List Int} (hok : BytesOk l) (hm : l.length ≤ 1073741824) (c : Int) : manyZ (forZ l c) = pos (forZ l c) :=
  cnt_many _ (forZ_facts hok c).1 (by have := (forZ_facts hok c).2; omega)
/-- where one is above 0 the other one is: no fewer are above 0 -/
theorem pos_mono : ∀ (a b : List Int), a.length = b.length → (∀ i, i < a.length → 0 < a.getD i 0 → 0 < b.getD i 0) → pos a ≤ pos b
  | [], [], _, _ => Int.le_refl _
  | x :: a, y :: b, h, k => by
    have h0 := k 0 (by simp)
    have ih := pos_mono a b (by simpa using h) (fun i hi => by have := k (i + 1) (by simpa using hi); simpa using this)
    unfold pos at *
    simp only [List.filter_cons, List.getD_cons_zero] at h0 ⊢
    by_cases hx : 0 < x
    · have hy := h0 hx
      simp only [hx, hy, decide_true, if_true, List.length_cons]; omega
    · by_cases hy : 0 < y
      · simp only [hx, hy, decide_true, decide_false, if_true, List.length_cons]; simp only [Bool.false_eq_true, if_false]; omega
      · simp only [hx, hy, decide_false, Bool.false_eq_true, if_false]; exact ih
  | [], _ :: _, h, _ => by simp at h
  | _ :: _, [], h, _ => by simp at h
theorem count_pick (l : List Int) (c v : Int) : ∀ i, i ≤ l.length → (pickTo l c i).count v ≤ (l.take i).count v
  | 0, _ => by simp [pickTo]
  | i + 1, hi => by
    have ih := count_pick l c v i (by omega)
    rw [pickTo, take_snocE l i (by omega), List.count_append, List.count_append]
    split
    · omega
    · simp; omega
theorem wid_le {l : List Int} (c : Nat) : ∀ k, c < k → manyZ (forZ l (c : Int)) ≤ widTo l k
  | 0, h => by omega
  | k + 1, h => by
    rw [widTo]
    by_cases e : c = k
    · subst e; exact mx_le_right _ _
    · have := wid_le (l := l) c k (by omega)
      have := mx_le_left (widTo l k) (manyZ (forZ l (k : Int)))
      omega
theorem wid_up {l : List Int} (b : Int) (h0 : 0 ≤ b) (h : ∀ c : Nat, c < 256 → manyZ (forZ l (c : Int)) ≤ b) : ∀ k, k ≤ 256 → widTo l k ≤ b
  | 0, _ => by simpa [widTo] using h0
  | k + 1, hk => by rw [widTo]; exact mx_le _ _ _ (wid_up b h0 h k (by omega)) (h k (by omega))
end Go.Proofs.Ythkpjjkjdklpmaa
