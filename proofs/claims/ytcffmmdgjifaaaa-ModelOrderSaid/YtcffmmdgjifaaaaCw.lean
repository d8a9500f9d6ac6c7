/- Plain lists of the layer hist: counts of bytes, whether a list is counts, how many are above 0, all together, two added. What the printed functions of the layer hist, and of its reference, come to. Plain: which bytes stand in a context, and which contexts there are. The contract of hist.Of: it returns the counts of the bytes; no block that was there turns. Contracts of the layer ctx that the print doesn't tell: which bytes are picked, which contexts are there. -/
import Derived.Lib.BitFns
import Derived.Test.YtcffmmdgjifaaaaBase
import Derived.Test.YtcffmmdgjifaaaaPPrx2
import Derived.Test.YtcffmmdgjifaaaaPPrx3
import Derived.Test.YtcffmmdgjifaaaaProg
import Derived.KernelRfl
import Derived.BigQuiet
import Derived.Deep.QuietTactic
import Derived.Deep.RegionWith
import Derived.Deep.DeepMust
namespace Go.Proofs.Ytcffmmdgjifaaaa
def zeros (n : Nat) : List Int := List.replicate n 0
/-- how often each byte comes -/
def cnt (l : List Int) : List Int := (List.range 256).map fun (v : Nat) => ((l.count (v : Int) : Nat) : Int)
theorem cnt_len (l : List Int) : (cnt l).length = 256 := by simp [cnt]
theorem cnt_get (l : List Int) (v : Nat) (h : v < 256) : (cnt l).getD v 0 = ((l.count (v : Int) : Nat) : Int) := by
  simp [cnt, List.getD_eq_getElem?_getD, List.getElem?_map, List.getElem?_range h]
/-- two lists of one length that read alike are one -/
theorem ext_getD {a b : List Int} (h : a.length = b.length) (k : ∀ i, i < a.length → a.getD i 0 = b.getD i 0) : a = b := by
  apply List.ext_getElem h
  intro i h1 h2
  have := k i h1
  simpa [List.getD_eq_getElem?_getD, List.getElem?_eq_getElem h1, List.getElem?_eq_getElem h2] using this
theorem getD_set (l : List Int) (i j : Nat) (x : Int) (h : i < l.length) : (l.set i x).getD j 0 = if i = j then x else l.getD j 0 := by
  simp only [List.getD_eq_getElem?_getD, List.getElem?_set]
  split
  · rename_i e; subst e; simp
  · rfl
theorem zeros_get (n i : Nat) : (zeros n).getD i 0 = 0 := by
  simp only [zeros, List.getD_eq_getElem?_getD, List.getElem?_replicate]; split <;> rfl
theorem cnt_nil : cnt [] = zeros 256 := by
  apply ext_getD
  · rw [cnt_len, zeros, List.length_replicate]
  · intro i hi
    rw [cnt_len] at hi
    rw [cnt_get _ _ hi, zeros_get]; rfl
theorem cnt_snoc (l : List Int) (x : Int) (h0 : 0 ≤ x) (h1 : x ≤ 255) : cnt (l ++ [x]) = (cnt l).set x.toNat ((cnt l).getD x.toNat 0 + 1) := by
  apply ext_getD
  · simp [cnt]
  · intro i hi
    rw [cnt_len] at hi
    rw [getD_set _ _ _ _ (by rw [cnt_len]; omega), cnt_get _ _ hi, cnt_get _ _ hi, cnt_get _ _ (by omega), List.count_append, List.count_singleton]
    by_cases e : x = (i : Int)
    · subst e; simp
    · have e2 : (x == (i : Int)) = false := by simpa using e
      rw [if_neg (show ¬ x.toNat = i by omega), e2]; simp
def BytesOk (l : List Int) : Prop := ∀ x, x ∈ l → 0 ≤ x ∧ x ≤ 255
theorem BytesOk.at {l : List Int} (h : BytesOk l) (i : Nat) (hi : i < l.length) : 0 ≤ l.getD i 0 ∧ l.getD i 0 ≤ 255 := by
  have := h (l[i]) (List.getElem_mem hi)
  simpa [List.getD_eq_getElem?_getD, List.getElem?_eq_getElem hi] using this
theorem BytesOk.append {a b : List Int} (h : BytesOk a) (k : BytesOk b) : BytesOk (a ++ b) := by
  intro x hx; rcases List.mem_append.1 hx with hx | hx
  · exact h x hx
  · exact k x hx
theorem take_snoc' (l : List Int) (i : Nat) (hi : i < l.length) : l.take (i + 1) = l.take i ++ [l.getD i 0] := by
  rw [List.take_succ_eq_append_getElem hi]; simp [List.getD_eq_getElem?_getD, List.getElem?_eq_getElem hi]
theorem take_all (l : List Int) : l.take l.length = l := List.take_of_length_le (Nat.le_refl _)
/-- is a list counts -/
def nonneg (l : List Int) : Bool := l.all fun x => decide (0 ≤ x)
def rightB (l : List Int) : Bool := decide (l.length = 256) && nonneg l && decide (l.sum ≤ 1073741824)
theorem nonneg_iff (l : List Int) : nonneg l = true ↔ ∀ x, x ∈ l → 0 ≤ x := by simp [nonneg]
theorem sum_nonneg {l : List Int} (h : ∀ x, x ∈ l → 0 ≤ x) : 0 ≤ l.sum := by
  induction l with
  | nil => simp
  | cons a l ih =>
    rw [List.sum_cons]
    have := h a (by simp)
    have := ih (fun x hx => h x (by simp [hx]))
    omega
theorem sum_take_le {l : List Int} (h : ∀ x, x ∈ l → 0 ≤ x) (i : Nat) : (l.take i).sum ≤ l.sum := by
  have e : l.sum = (l.take i).sum + (l.drop i).sum := by rw [← List.sum_append, List.take_append_drop]
  have := sum_nonneg (l := l.drop i) (fun x hx => h x (List.mem_of_mem_drop hx))
  omega
theorem rightB_iff (l : List Int) : rightB l = true ↔ l.length = 256 ∧ (∀ x, x ∈ l → 0 ≤ x) ∧ l.sum ≤ 1073741824 := by
  unfold rightB; rw [Bool.and_eq_true, Bool.and_eq_true, nonneg_iff, decide_eq_true_iff, decide_eq_true_iff, and_assoc]
theorem rightB_false (l : List Int) (h : ¬ (l.length = 256 ∧ (∀ x, x ∈ l → 0 ≤ x) ∧ l.sum ≤ 1073741824)) : rightB l = false := by
  cases e : rightB l with
  | false => rfl
  | true => exact absurd ((rightB_iff l).1 e) h
theorem getD_mem {l : List Int} (i : Nat) (h : i < l.length) : l.getD i 0 ∈ l := by
  simp [List.getD_eq_getElem?_getD, List.getElem?_eq_getElem h]
/-- the first numbers of counts are counts so far -/
def sofar (l : List Int) : Prop := (∀ x, x ∈ l → 0 ≤ x) ∧ l.sum ≤ 1073741824
theorem sofar_nil : sofar [] := ⟨by simp, by simp⟩
theorem sofar_take {l : List Int} (h : rightB l = true) (i : Nat) : sofar (l.take i) := by
  obtain ⟨_, h2, h3⟩ := (rightB_iff l).1 h
  exact ⟨fun x hx => h2 x (List.mem_of_mem_take hx), by have := sum_take_le h2 i; omega⟩
theorem sofar_snoc {l : List Int} {x : Int} (h : sofar l) (h0 : 0 ≤ x) (h1 : x ≤ 1073741824 - l.sum) : sofar (l ++ [x]) := by
  refine ⟨fun y hy => ?_, by rw [List.sum_append]; simp; omega⟩
  rcases List.mem_append.1 hy with hy | hy
  · exact h.1 y hy
  · simp at hy; omega
theorem sofar_bd {l : List Int} (h : sofar l) : 0 ≤ l.sum ∧ l.sum ≤ 1073741824 := ⟨sum_nonneg h.1, h.2⟩
theorem rightB_sofar {l : List Int} (h : sofar l) : rightB l = decide (l.length = 256) := by
  by_cases e : l.length = 256
  · rw [decide_eq_true e, rightB_iff]; exact ⟨e, h.1, h.2⟩
  · rw [decide_eq_false e]; exact rightB_false _ (fun h => e h.1)
theorem rightB_stop {l : List Int} (i : Nat) (hi : i < l.length) (h : l.getD i 0 < 0 ∨ 1073741824 - (l.take i).sum < l.getD i 0) : rightB l = false := by
  apply rightB_false
  rintro ⟨h1, h2, h3⟩
  have h4 := h2 _ (getD_mem i hi)
  have h5 := sum_take_le h2 (i + 1)
  rw [take_snoc' l i hi, List.sum_append] at h5
  simp only [List.sum_cons, List.sum_nil] at h5
  omega
/-- how many are above 0 -/
def pos (l : List Int) : Int := ((l.filter fun x => decide (0 < x)).length : Nat)
def manyZ (l : List Int) : Int := if rightB l = true then pos l else 0
def totZ (l : List Int) : Int := if rightB l = true then l.sum else 0
theorem pos_snoc (l : List Int) (x : Int) : pos (l ++ [x]) = pos l + if 0 < x then 1 else 0 := by
  unfold pos; rw [List.filter_append, List.length_append]
  by_cases h : 0 < x <;> simp [h]
theorem pos_bd (l : List Int) : 0 ≤ pos l ∧ pos l ≤ l.length := by
  unfold pos; have := List.length_filter_le (fun x : Int => decide (0 < x)) l; omega
/-- two lists added -/
def addL (a b : List Int) : List Int := (List.range 256).map fun i => a.getD i 0 + b.getD i 0
theorem addL_len (a b : List Int) : (addL a b).length = 256 := by simp [addL]
theorem addL_get (a b : List Int) (i : Nat) (h : i < 256) : (addL a b).getD i 0 = a.getD i 0 + b.getD i 0 := by
  simp [addL, List.getD_eq_getElem?_getD, List.getElem?_map, List.getElem?_range h]
theorem sum_add : ∀ (a b c : List Int), a.length = b.length → c.length = a.length → (∀ i, i < a.length → c.getD i 0 = a.getD i 0 + b.getD i 0) → c.sum = a.sum + b.sum
  | [], [], [], _, _, _ => by simp
  | x :: a, y :: b, z :: c, h, h2, h3 => by
    have h4 := h3 0 (by simp)
    simp at h4
    have h5 := sum_add a b c (by simpa using h) (by simpa using h2) (fun i hi => by have := h3 (i + 1) (by simpa using hi); simpa using this)
    simp only [List.sum_cons]; omega
  | [], _ :: _, _, h, _, _ => by simp at h
  | _ :: _, [], _, h, _, _ => by simp at h
  | [], [], _ :: _, _, h, _ => by simp at h
  | _ :: _, _ :: _, [], _, h, _ => by simp at h
theorem pos_add : ∀ (a b c : List Int), a.length = b.length → c.length = a.length → (∀ x, x ∈ a → 0 ≤ x) → (∀ x, x ∈ b → 0 ≤ x) → (∀ i, i < a.length → c.getD i 0 = a.getD i 0 + b.getD i 0) → pos a ≤ pos c ∧ pos b ≤ pos c ∧ pos c ≤ pos a + pos b
  | [], [], [], _, _, _, _, _ => by simp [pos]
  | x :: a, y :: b, z :: c, h, h2, p, q, h3 => by
    have h4 := h3 0 (by simp)
    simp at h4
    have h5 := pos_add a b c (by simpa using h) (by simpa using h2) (fun x hx => p x (by simp [hx])) (fun x hx => q x (by simp [hx])) (fun i hi => by have := h3 (i + 1) (by simpa using hi); simpa using this)
    have hx := p x (by simp)
    have hy := q y (by simp)
    have e : ∀ (u : Int) (l : List Int), pos (u :: l) = pos l + if 0 < u then 1 else 0 := by
      intro u l; unfold pos; by_cases g : 0 < u <;> simp [g]
    rw [e, e, e]
    (repeat' split) <;> omega
  | [], _ :: _, _, h, _, _, _, _ => by simp at h
  | _ :: _, [], _, h, _, _, _, _ => by simp at h
  | [], [], _ :: _, _, h, _, _, _ => by simp at h
  | _ :: _, _ :: _, [], _, h, _, _, _ => by simp at h
theorem cnt_nonneg (l : List Int) : ∀ x, x ∈ cnt l → 0 ≤ x := by
  intro x hx; simp only [cnt, List.mem_map] at hx; obtain ⟨v, _, rfl⟩ := hx; omega
theorem cnt_append (a b : List Int) : cnt (a ++ b) = addL (cnt a) (cnt b) := by
  apply ext_getD (by rw [cnt_len, addL_len])
  intro i hi; rw [cnt_len] at hi
  rw [addL_get _ _ _ hi, cnt_get _ _ hi, cnt_get _ _ hi, cnt_get _ _ hi, List.count_append]; omega
theorem addL_comm (a b : List Int) : addL a b = addL b a := by
  unfold addL; congr 1; funext i; omega
theorem sum_set : ∀ (l : List Int) (i : Nat) (x : Int), i < l.length → (l.set i x).sum = l.sum + x - l.getD i 0
  | a :: l, 0, x, _ => by simp; omega
  | a :: l, i + 1, x, h => by
    have := sum_set l i x (by simpa using h)
    simp only [List.set_cons_succ, List.sum_cons, this, List.getD_cons_succ]; omega
  | [], _, _, h => by simp at h
theorem pos_set : ∀ (l : List Int) (i : Nat) (x : Int), i < l.length → pos (l.set i x) = pos l + (if 0 < x then 1 else 0) - (if 0 < l.getD i 0 then 1 else 0)
  | a :: l, 0, x, _ => by
    have e : ∀ (u : Int) (l : List Int), pos (u :: l) = pos l + if 0 < u then 1 else 0 := by
      intro u l; unfold pos; by_cases g : 0 < u <;> simp [g]
    simp only [List.set_cons_zero, e, List.getD_cons_zero]; omega
  | a :: l, i + 1, x, h => by
    have e : ∀ (u : Int) (l : List Int), pos (u :: l) = pos l + if 0 < u then 1 else 0 := by
      intro u l; unfold pos; by_cases g : 0 < u <;> simp [g]
    have := pos_set l i x (by simpa using h)
    simp only [List.set_cons_succ, e, this, List.getD_cons_succ]; omega
  | [], _, _, h => by simp at h
theorem zeros_sum (n : Nat) : (zeros n).sum = 0 := by
  induction n with
  | zero => rfl
  | succ n ih => unfold zeros at *; rw [List.replicate_succ, List.sum_cons, ih]; rfl
theorem cnt_sum (l : List Int) (h : BytesOk l) : (cnt l).sum = l.length := by
  suffices ∀ i, i ≤ l.length → (cnt (l.take i)).sum = i by have := this l.length (Nat.le_refl _); rwa [take_all] at this
  intro i
  induction i with
  | zero => intro _; rw [List.take_zero, cnt_nil, zeros_sum]; rfl
  | succ i ih =>
    intro hi
    have hb := h.at i hi
    rw [take_snoc' l i hi, cnt_snoc _ _ hb.1 hb.2, sum_set _ _ _ (by rw [cnt_len]; omega), ih (by omega)]; omega
theorem cnt_right (l : List Int) (h : BytesOk l) (hl : l.length ≤ 1073741824) : rightB (cnt l) = true := by
  rw [rightB_iff]; exact ⟨cnt_len l, cnt_nonneg l, by rw [cnt_sum l h]; omega⟩
theorem cnt_tot (l : List Int) (h : BytesOk l) (hl : l.length ≤ 1073741824) : totZ (cnt l) = l.length := by
  unfold totZ; rw [if_pos (cnt_right l h hl), cnt_sum l h]
theorem cnt_many (l : List Int) (h : BytesOk l) (hl : l.length ≤ 1073741824) : manyZ (cnt l) = pos (cnt l) := by
  unfold manyZ; rw [if_pos (cnt_right l h hl)]
theorem addL_right (a b : List Int) (ha : rightB a = true) (hb : rightB b = true) : rightB (addL a b) = decide (a.sum + b.sum ≤ 1073741824) := by
  obtain ⟨a1, a2, a3⟩ := (rightB_iff a).1 ha
  obtain ⟨b1, b2, b3⟩ := (rightB_iff b).1 hb
  have hs := sum_add a b (addL a b) (by omega) (by rw [addL_len]; omega) (fun i hi => addL_get a b i (by omega))
  by_cases h : a.sum + b.sum ≤ 1073741824
  · rw [decide_eq_true h, rightB_iff]
    refine ⟨addL_len _ _, fun x hx => ?_, by omega⟩
    simp only [addL, List.mem_map, List.mem_range] at hx
    obtain ⟨i, hi, rfl⟩ := hx
    have := a2 _ (getD_mem (l := a) i (by omega)); have := b2 _ (getD_mem (l := b) i (by omega)); omega
  · rw [decide_eq_false h]; exact rightB_false _ (fun k => h (by omega))
theorem addL_facts (a b : List Int) (ha : rightB a = true) (hb : rightB b = true) : (addL a b).sum = a.sum + b.sum ∧ pos a ≤ pos (addL a b) ∧ pos b ≤ pos (addL a b) ∧ pos (addL a b) ≤ pos a + pos b := by
  obtain ⟨a1, a2, a3⟩ := (rightB_iff a).1 ha
  obtain ⟨b1, b2, b3⟩ := (rightB_iff b).1 hb
  exact ⟨sum_add a b (addL a b) (by omega) (by rw [addL_len]; omega) (fun i hi => addL_get a b i (by omega)),
    pos_add a b (addL a b) (by omega) (by rw [addL_len]; omega) a2 b2 (fun i hi => addL_get a b i (by omega))⟩
/-- one byte more -/
theorem more_facts (l : List Int) (V : Nat) (hb : BytesOk l) (hV : V ≤ 255) (hl : l.length ≤ 1073741823) :
    (cnt l).set V ((cnt l).getD V 0 + 1) = cnt (l ++ [(V : Int)]) ∧ 0 ≤ (cnt l).getD V 0 ∧ (cnt l).getD V 0 ≤ l.length ∧
    manyZ (cnt (l ++ [(V : Int)])) = manyZ (cnt l) + (if (cnt l).getD V 0 = 0 then 1 else 0) ∧ 0 ≤ manyZ (cnt l) ∧ manyZ (cnt l) ≤ 256 ∧ totZ (cnt (l ++ [(V : Int)])) = l.length + 1 ∧ BytesOk (l ++ [(V : Int)]) := by
  have hb2 : BytesOk (l ++ [(V : Int)]) := hb.append (fun x hx => by simp at hx; omega)
  have hs := cnt_snoc l (V : Int) (by omega) (by omega)
  rw [Int.toNat_natCast] at hs
  have hg : 0 ≤ (cnt l).getD V 0 ∧ (cnt l).getD V 0 ≤ l.length := by
    rw [cnt_get _ _ (by omega)]
    have := List.count_le_length (a := (V : Int)) (l := l)
    omega
  have hp := pos_bd (cnt l)
  rw [cnt_len] at hp
  refine ⟨hs.symm, hg.1, hg.2, ?_, ?_, ?_, ?_, hb2⟩
  · rw [cnt_many _ hb2 (by simp; omega), cnt_many _ hb (by omega), hs, pos_set _ _ _ (by rw [cnt_len]; omega)]
    generalize (cnt l).getD V 0 = X at hg
    (repeat' split) <;> omega
  · rw [cnt_many _ hb (by omega)]; omega
  · rw [cnt_many _ hb (by omega)]; omega
  · rw [cnt_tot _ hb2 (by simp; omega)]; simp
/-- two added -/
theorem adds_facts (a b : List Int) (ha : rightB a = true) (hb : rightB b = true) (hs : a.sum + b.sum ≤ 1073741824) :
    rightB (addL a b) = true ∧ totZ (addL a b) = totZ a + totZ b ∧ manyZ a ≤ manyZ (addL a b) ∧ manyZ b ≤ manyZ (addL a b) ∧ manyZ (addL a b) ≤ manyZ a + manyZ b := by
  have h := addL_right a b ha hb
  rw [decide_eq_true hs] at h
  have f := addL_facts a b ha hb
  unfold totZ manyZ
  rw [if_pos h, if_pos ha, if_pos hb]
  simp only [if_pos h, if_pos ha, if_pos hb]
  exact ⟨h, f.1, f.2.1, f.2.2.1, f.2.2.2⟩
theorem manyZ_bd (l : List Int) : 0 ≤ manyZ l ∧ manyZ l ≤ 256 := by
  unfold manyZ
  by_cases h : rightB l = true
  · rw [if_pos h]; have := pos_bd l; have := ((rightB_iff l).1 h).1; omega
  · rw [if_neg h]; omega
theorem totZ_bd (l : List Int) : 0 ≤ totZ l ∧ totZ l ≤ 1073741824 := by
  unfold totZ
  by_cases h : rightB l = true
  · rw [if_pos h]; have := (rightB_iff l).1 h; exact ⟨sum_nonneg this.2.1, this.2.2⟩
  · rw [if_neg h]; omega
/-- two joined -/
theorem joins_facts (a b : List Int) (ha : BytesOk a) (hb : BytesOk b) (hl : a.length + b.length ≤ 1073741824) :
    rightB (cnt a) = true ∧ rightB (cnt b) = true ∧ (cnt a).sum + (cnt b).sum ≤ 1073741824 ∧ addL (cnt a) (cnt b) = cnt (a ++ b) ∧ cnt (b ++ a) = cnt (a ++ b) ∧ totZ (cnt (a ++ b)) = a.length + b.length ∧ rightB (cnt (a ++ b)) = true ∧ BytesOk (a ++ b) ∧ BytesOk (b ++ a) := by
  refine ⟨cnt_right a ha (by omega), cnt_right b hb (by omega), by rw [cnt_sum a ha, cnt_sum b hb]; omega, (cnt_append a b).symm, by rw [cnt_append, cnt_append, addL_comm], ?_, ?_, ha.append hb, hb.append ha⟩
  · rw [cnt_tot _ (ha.append hb) (by simp; omega)]; simp
  · exact cnt_right _ (ha.append hb) (by simp; omega)
end Go.Proofs.Ytcffmmdgjifaaaa
namespace Go.Proofs.Ytcffmmdgjifaaaa
open Go.RowKit Go.Proofs.YtcffmmdgjifaaaaW.PrintWords PPr
set_option linter.unusedSimpArgs false
set_option linter.unusedVariables false
theorem ints_from (a b : List Int) (hl : a.length = b.length) (hm : a.length ≤ 4611686018427387000) : ∀ (d i : Nat), i + d = a.length → a.take i = b.take i → Ev (fun k => puncheonref01_Ints.l0 k a b (i : Int)) (decide (a = b))
  | 0, i, hd, hs => by
    refine Ev.step (fun _ => rfl) (ev_neg (by omega) ?_)
    rw [List.take_of_length_le (by omega), List.take_of_length_le (by omega)] at hs
    exact ev_eq (Ev.now _) (by simp [hs])
  | d + 1, i, hd, hs => by
    refine Ev.step (fun _ => rfl) (ev_pos (by omega) (ev_pos (by omega) (ev_pos (by omega) ?_)))
    rw [rd_nat, rd_nat]
    by_cases he : a.getD i 0 = b.getD i 0
    · refine ev_pos he ?_
      rw [wnext i (by omega)]
      exact ints_from a b hl hm d (i + 1) (by omega) (by rw [take_snocE _ _ (by omega), take_snocE _ _ (by omega), hs, he])
    · refine ev_neg he (ev_eq (Ev.now _) ?_)
      have : a ≠ b := fun h => he (by rw [h])
      simp [this]
theorem ints_ev (a b : List Int) (hm : a.length ≤ 4611686018427387000) : Ev (fun k => puncheonref01_Ints.f k a b) (decide (a = b)) := by
  unfold puncheonref01_Ints.f
  by_cases hl : a.length = b.length
  · exact ev_pos (by omega) (ints_from a b hl hm a.length 0 (by omega) rfl)
  · refine ev_neg (by omega) (ev_eq (Ev.now _) ?_)
    have : a ≠ b := fun h => hl (by rw [h])
    simp [this]
theorem right_from (l : List Int) (hm : l.length ≤ 4611686018427387000) : ∀ (d i : Nat), i + d = l.length → sofar (l.take i) → Ev (fun k => hist_Right.l0 k l (l.take i).sum l (l.length : Int) (i : Int)) (rightB l)
  | 0, i, hd, hs => by
    refine Ev.step (fun _ => rfl) (ev_neg (by omega) ?_)
    rw [List.take_of_length_le (by omega)] at hs
    refine ev_eq (Ev.now _) ?_
    rw [rightB_sofar hs, Bool.eq_iff_iff, beq_iff_eq, decide_eq_true_iff]
    omega
  | d + 1, i, hd, hs => by
    have hb := sofar_bd hs
    refine Ev.step (fun _ => rfl) (ev_pos (by omega) (ev_pos (by omega) (ev_pos (by omega) ?_)))
    rw [rd_nat, w64' (x := 1073741824 - (l.take i).sum) rfl (by omega) (by omega)]
    by_cases h1 : l.getD i 0 < 0
    · exact ev_pos h1 (ev_eq (Ev.now _) (rightB_stop i (by omega) (.inl h1)).symm)
    · refine ev_neg h1 ?_
      by_cases h2 : l.getD i 0 > 1073741824 - (l.take i).sum
      · exact ev_pos h2 (ev_eq (Ev.now _) (rightB_stop i (by omega) (.inr h2)).symm)
      · refine ev_neg h2 ?_
        have hn := sofar_snoc hs (x := l.getD i 0) (by omega) (by omega)
        rw [← take_snocE l i (by omega)] at hn
        rw [wnext i (by omega), show wrap64 ((l.take i).sum + l.getD i 0) = (l.take (i + 1)).sum from w64' (by rw [take_snocE l i (by omega), List.sum_append]; simp) (by have := sofar_bd hn; omega) (by have := sofar_bd hn; omega)]
        exact right_from l hm d (i + 1) (by omega) hn
theorem right_ev (l : List Int) (hm : l.length ≤ 4611686018427387000) : Ev (fun k => hist_Right.f k l) (rightB l) := by
  unfold hist_Right.f
  exact right_from l hm l.length 0 (by omega) (by simpa using sofar_nil)
theorem many_from (l : List Int) (hm : l.length ≤ 4611686018427387000) (hr : rightB l = true) : ∀ (d i : Nat), i + d = l.length → Ev (fun k => hist_Many.l0 k l (pos (l.take i)) l (l.length : Int) (i : Int)) (pos l)
  | 0, i, hd => by
    refine Ev.step (fun _ => rfl) (ev_neg (by omega) ?_)
    rw [List.take_of_length_le (by omega)]
    exact Ev.now _
  | d + 1, i, hd => by
    have hb := pos_bd (l.take i)
    have hl : (l.take i).length ≤ i := List.length_take_le _ _
    refine Ev.step (fun _ => rfl) (ev_pos (by omega) (ev_pos (by omega) (ev_pos (by omega) ?_)))
    rw [rd_nat]
    have hs := pos_snoc (l.take i) (l.getD i 0)
    rw [← take_snocE l i (by omega)] at hs
    by_cases h1 : l.getD i 0 > 0
    · refine ev_pos h1 (Ev.bind (right_ev l hm) (ev_pos hr ?_))
      rw [wnext i (by omega), show wrap64 (pos (l.take i) + 1) = pos (l.take (i + 1)) from w64' (by rw [hs, if_pos h1]) (by rw [hs, if_pos h1]; omega) (by rw [hs, if_pos h1]; omega)]
      exact many_from l hm hr d (i + 1) (by omega)
    · refine ev_neg h1 ?_
      rw [wnext i (by omega), show pos (l.take i) = pos (l.take (i + 1)) by rw [hs, if_neg (by omega)]; omega]
      exact many_from l hm hr d (i + 1) (by omega)
theorem many_none (l : List Int) (hm : l.length ≤ 4611686018427387000) (hr : rightB l = false) : ∀ (d i : Nat), i + d = l.length → Ev (fun k => hist_Many.l0 k l 0 l (l.length : Int) (i : Int)) 0
  | 0, i, hd => Ev.step (fun _ => rfl) (ev_neg (by omega) (Ev.now _))
  | d + 1, i, hd => by
    refine Ev.step (fun _ => rfl) (ev_pos (by omega) (ev_pos (by omega) (ev_pos (by omega) ?_)))
    rw [wnext i (by omega)]
    by_cases h1 : rd l (i : Int) > 0
    · exact ev_pos h1 (Ev.bind (right_ev l hm) (ev_neg (by rw [hr]; simp) (many_none l hm hr d (i + 1) (by omega))))
    · exact ev_neg h1 (many_none l hm hr d (i + 1) (by omega))
theorem many_ev (l : List Int) (hm : l.length ≤ 4611686018427387000) : Ev (fun k => hist_Many.f k l) (manyZ l) := by
  unfold hist_Many.f manyZ
  cases hr : rightB l with
  | true => rw [if_pos rfl]; exact many_from l hm hr l.length 0 (by omega)
  | false => rw [if_neg (by simp)]; exact many_none l hm hr l.length 0 (by omega)
theorem total_from (l : List Int) (hm : l.length ≤ 4611686018427387000) (hr : rightB l = true) : ∀ (d i : Nat), i + d = l.length → Ev (fun k => hist_Total.l0 k (l.take i).sum l (l.length : Int) (i : Int)) l.sum
  | 0, i, hd => by
    refine Ev.step (fun _ => rfl) (ev_neg (by omega) ?_)
    rw [List.take_of_length_le (by omega)]
    exact Ev.now _
  | d + 1, i, hd => by
    have hb := sofar_bd (sofar_take hr (i + 1))
    refine Ev.step (fun _ => rfl) (ev_pos (by omega) (ev_pos (by omega) (ev_pos (by omega) ?_)))
    rw [rd_nat, wnext i (by omega), show wrap64 ((l.take i).sum + l.getD i 0) = (l.take (i + 1)).sum from w64' (by rw [take_snocE l i (by omega), List.sum_append]; simp) (by omega) (by omega)]
    exact total_from l hm hr d (i + 1) (by omega)
theorem total_ev (l : List Int) (hm : l.length ≤ 4611686018427387000) : Ev (fun k => hist_Total.f k l) (totZ l) := by
  unfold hist_Total.f totZ
  refine Ev.bind (right_ev l hm) ?_
  cases hr : rightB l with
  | true => exact ev_pos rfl (by rw [if_pos rfl]; exact total_from l hm hr l.length 0 (by omega))
  | false => exact ev_neg (by simp) (by rw [if_neg (by simp)]; exact Ev.now _)
theorem rright_from (l : List Int) (hl : l.length = 256) : ∀ (d i : Nat), i + d = 256 → (∀ x, x ∈ l.take i → 0 ≤ x ∧ x ≤ 1073741824) → Ev (fun k => puncheonref05_Right.l0 k l (l.take i).sum (i : Int)) (rightB l)
  | 0, i, hd, hs => by
    refine Ev.step (fun _ => rfl) (ev_neg (by omega) ?_)
    rw [List.take_of_length_le (by omega)] at hs ⊢
    refine ev_eq (Ev.now _) ?_
    rw [Bool.eq_iff_iff, decide_eq_true_iff, rightB_iff]
    exact ⟨fun h => ⟨hl, fun x hx => (hs x hx).1, h⟩, fun h => h.2.2⟩
  | d + 1, i, hd, hs => by
    refine Ev.step (fun _ => rfl) (ev_pos (by omega) (ev_pos (by omega) (ev_pos (by omega) ?_)))
    rw [rd_nat]
    by_cases h1 : l.getD i 0 < 0
    · refine ev_pos h1 (ev_eq (Ev.now _) ?_)
      exact (rightB_false _ (fun h => by have := h.2.1 _ (getD_memE (show i < l.length by omega)); omega)).symm
    · refine ev_neg h1 ?_
      by_cases h2 : l.getD i 0 > 1073741824
      · refine ev_pos h2 (ev_eq (Ev.now _) ?_)
        refine (rightB_false _ (fun h => ?_)).symm
        have h3 := sum_take_le h.2.1 (i + 1)
        rw [take_snocE l i (by omega), List.sum_append] at h3
        have h4 := sum_nonneg (l := l.take i) (fun x hx => h.2.1 x (List.mem_of_mem_take hx))
        simp at h3
        have h5 := h.2.2
        rw [List.getD_eq_getElem?_getD] at h2
        omega
      · refine ev_neg h2 ?_
        have hn : ∀ x, x ∈ l.take (i + 1) → 0 ≤ x ∧ x ≤ 1073741824 := by
          intro x hx
          rw [take_snocE l i (by omega)] at hx
          rcases List.mem_append.1 hx with hx | hx
          · exact hs x hx
          · rw [List.mem_singleton.1 hx]; omega
        have hbd : ∀ m : List Int, (∀ x, x ∈ m → 0 ≤ x ∧ x ≤ 1073741824) → 0 ≤ m.sum ∧ m.sum ≤ 1073741824 * m.length := by
          intro m
          induction m with
          | nil => intro _; simp
          | cons x m ih =>
            intro hm
            have h1 := hm x (by simp)
            have h2 := ih (fun y hy => hm y (by simp [hy]))
            rw [List.sum_cons, List.length_cons]
            omega
        have hb := hbd _ hn
        have hlen : (l.take (i + 1)).length ≤ i + 1 := List.length_take_le _ _
        rw [wnext i (by omega), show wrap64 ((l.take i).sum + l.getD i 0) = (l.take (i + 1)).sum from w64' (by rw [take_snocE l i (by omega), List.sum_append]; simp) (by omega) (by omega)]
        exact rright_from l hl d (i + 1) (by omega) hn
theorem rright_ev (l : List Int) (hm : l.length ≤ 4611686018427387000) : Ev (fun k => puncheonref05_Right.f k l) (rightB l) := by
  unfold puncheonref05_Right.f
  by_cases hl : l.length = 256
  · exact ev_pos (by omega) (rright_from l hl 256 0 (by omega) (by simp))
  · exact ev_neg (by omega) (ev_eq (Ev.now _) (rightB_false _ (fun h => hl h.1)).symm)
theorem rmany_from (l : List Int) (hm : l.length ≤ 4611686018427387000) : ∀ (d i : Nat), i + d = l.length → Ev (fun k => puncheonref05_Many.l0 k l (pos (l.take i)) true (i : Int)) (pos l)
  | 0, i, hd => by
    refine Ev.step (fun _ => by rw [puncheonref05_Many.l0]) (ev_neg (by omega) (Ev.step (fun _ => by rw [puncheonref05_Many.j1]) (ev_neg (by simp) ?_)))
    rw [List.take_of_length_le (by omega)]
    exact Ev.now _
  | d + 1, i, hd => by
    have hb := pos_bd (l.take i)
    have hl : (l.take i).length ≤ i := List.length_take_le _ _
    refine Ev.step (fun _ => by rw [puncheonref05_Many.l0]) (ev_pos (by omega) (Ev.step (fun _ => by rw [puncheonref05_Many.j1]) (ev_pos rfl (ev_pos (by omega) (ev_pos (by omega) ?_)))))
    rw [rd_nat]
    have hs := pos_snoc (l.take i) (l.getD i 0)
    rw [← take_snocE l i (by omega)] at hs
    by_cases h1 : l.getD i 0 > 0
    · refine ev_pos h1 ?_
      rw [wnext i (by omega), show wrap64 (pos (l.take i) + 1) = pos (l.take (i + 1)) from w64' (by rw [hs, if_pos h1]) (by rw [hs, if_pos h1]; omega) (by rw [hs, if_pos h1]; omega)]
      exact rmany_from l hm d (i + 1) (by omega)
    · refine ev_neg h1 ?_
      rw [wnext i (by omega), show pos (l.take i) = pos (l.take (i + 1)) by rw [hs, if_neg (by omega)]; omega]
      exact rmany_from l hm d (i + 1) (by omega)
theorem rmany_ev (l : List Int) (hm : l.length ≤ 4611686018427387000) : Ev (fun k => puncheonref05_Many.f k l) (manyZ l) := by
  unfold puncheonref05_Many.f manyZ
  refine Ev.bind (rright_ev l hm) ?_
  cases hr : rightB l with
  | true => rw [if_pos rfl]; exact rmany_from l hm l.length 0 (by omega)
  | false =>
    rw [if_neg (by simp)]
    refine Ev.step (fun _ => by rw [puncheonref05_Many.l0]) ?_
    have hj : Ev (fun k => puncheonref05_Many.j1 k l 0 false 0 false) 0 := Ev.step (fun _ => by rw [puncheonref05_Many.j1]) (ev_neg (by simp) (Ev.now _))
    by_cases h : (0 : Int) < (l.length : Int)
    · exact ev_pos h hj
    · exact ev_neg h hj
theorem rtotal_from (l : List Int) (hm : l.length ≤ 4611686018427387000) (hr : rightB l = true) : ∀ (d i : Nat), i + d = l.length → Ev (fun k => puncheonref05_Total.l0 k l (l.take i).sum true (i : Int)) l.sum
  | 0, i, hd => by
    refine Ev.step (fun _ => by rw [puncheonref05_Total.l0]) (ev_neg (by omega) ?_)
    rw [List.take_of_length_le (by omega)]
    exact Ev.now _
  | d + 1, i, hd => by
    have hb := sofar_bd (sofar_take hr (i + 1))
    refine Ev.step (fun _ => by rw [puncheonref05_Total.l0]) (ev_pos (by omega) (ev_pos rfl (ev_pos (by omega) ?_)))
    rw [rd_nat, wnext i (by omega), show wrap64 ((l.take i).sum + l.getD i 0) = (l.take (i + 1)).sum from w64' (by rw [take_snocE l i (by omega), List.sum_append]; simp) (by omega) (by omega)]
    exact rtotal_from l hm hr d (i + 1) (by omega)
theorem rtotal_ev (l : List Int) (hm : l.length ≤ 4611686018427387000) : Ev (fun k => puncheonref05_Total.f k l) (totZ l) := by
  unfold puncheonref05_Total.f totZ
  refine Ev.bind (rright_ev l hm) ?_
  cases hr : rightB l with
  | true => rw [if_pos rfl]; exact rtotal_from l hm hr l.length 0 (by omega)
  | false =>
    rw [if_neg (by simp)]
    refine Ev.step (fun _ => by rw [puncheonref05_Total.l0]) ?_
    by_cases h : (0 : Int) < (l.length : Int)
    · exact ev_pos h (ev_neg (by simp) (Ev.now _))
    · exact ev_neg h (Ev.now _)
end Go.Proofs.Ytcffmmdgjifaaaa
namespace Go.Proofs.Ytcffmmdgjifaaaa
set_option linter.unusedSimpArgs false
/-- a byte's context -/
def ctxAt (l : List Int) (i : Nat) : Int := if i = 0 then 0 else l.getD (i - 1) 0
/-- of the first i bytes, those whose context is c -/
def pickTo (l : List Int) (c : Int) : Nat → List Int
  | 0 => []
  | i + 1 => pickTo l c i ++ (if ctxAt l i = c then [l.getD i 0] else [])
theorem pickTo_len (l : List Int) (c : Int) : ∀ i, (pickTo l c i).length ≤ i
  | 0 => by simp [pickTo]
  | i + 1 => by
    have := pickTo_len l c i
    rw [pickTo, List.length_append]
    split <;> simp <;> omega
theorem pickTo_hit (l : List Int) (c : Int) (i : Nat) (h : ctxAt l i = c) : pickTo l c (i + 1) = pickTo l c i ++ [l.getD i 0] := by rw [pickTo, if_pos h]
theorem pickTo_miss (l : List Int) (c : Int) (i : Nat) (h : ¬ ctxAt l i = c) : pickTo l c (i + 1) = pickTo l c i := by rw [pickTo, if_neg h, List.append_nil]
theorem pickTo_ok {l : List Int} (h : BytesOk l) (c : Int) : ∀ i, i ≤ l.length → BytesOk (pickTo l c i)
  | 0, _ => by intro x hx; simp [pickTo] at hx
  | i + 1, hi => by
    rw [pickTo]
    refine BytesOk.append (pickTo_ok h c i (by omega)) ?_
    split
    · intro x hx
      rw [List.mem_singleton.1 hx]
      exact h.at i (by omega)
    · intro x hx; simp at hx
theorem ctxAt_ok {l : List Int} (h : BytesOk l) (i : Nat) (hi : i < l.length) : 0 ≤ ctxAt l i ∧ ctxAt l i ≤ 255 := by
  unfold ctxAt
  split
  · omega
  · exact h.at (i - 1) (by omega)
/-- of the first i bytes: which contexts there are -/
def metTo (l : List Int) : Nat → List Bool
  | 0 => List.replicate 256 false
  | i + 1 => (metTo l i).set (ctxAt l i).toNat true
theorem metTo_len (l : List Int) : ∀ i, (metTo l i).length = 256
  | 0 => List.length_replicate
  | i + 1 => by rw [metTo, List.length_set, metTo_len l i]
theorem metTo_get {l : List Int} (h : BytesOk l) : ∀ i, i ≤ l.length → ∀ c, c < 256 → (metTo l i).getD c false = (List.range i).any fun j => decide (ctxAt l j = (c : Int))
  | 0, _, c, hc => by
    rw [metTo, List.getD_eq_getElem?_getD, List.getElem?_replicate, List.range_zero, List.any_nil]
    split <;> rfl
  | i + 1, hi, c, hc => by
    have hb := ctxAt_ok h i (by omega)
    rw [metTo, List.range_succ, List.any_append, ← metTo_get h i (by omega) c hc]
    simp only [List.getD_eq_getElem?_getD, List.getElem?_set, metTo_len]
    by_cases e : (ctxAt l i).toNat = c
    · have e2 : ctxAt l i = (c : Int) := by omega
      rw [if_pos e, if_pos (by omega)]; simp [e2]
    · have e2 : ¬ ctxAt l i = (c : Int) := by omega
      rw [if_neg e]; simp [e2]
/-- the contexts below k -/
def presTo (m : List Bool) : Nat → List Int
  | 0 => []
  | k + 1 => presTo m k ++ (if m.getD k false = true then [(k : Int)] else [])
theorem presTo_len (m : List Bool) : ∀ k, (presTo m k).length ≤ k
  | 0 => by simp [presTo]
  | k + 1 => by
    have := presTo_len m k
    rw [presTo, List.length_append]
    split <;> simp <;> omega
theorem presTo_hit (m : List Bool) (k : Nat) (h : m.getD k false = true) : presTo m (k + 1) = presTo m k ++ [(k : Int)] := by rw [presTo, if_pos h]
theorem presTo_miss (m : List Bool) (k : Nat) (h : m.getD k false = false) : presTo m (k + 1) = presTo m k := by rw [presTo, h]; simp
/-- what the walks ask of bytes -/
def okBytes (l : List Int) : Bool := decide (l.length ≤ 1099511627776) && l.all fun x => decide (0 ≤ x) && decide (x ≤ 255)
theorem okBytes_iff (l : List Int) : okBytes l = true ↔ l.length ≤ 1099511627776 ∧ BytesOk l := by
  unfold okBytes BytesOk
  rw [Bool.and_eq_true, decide_eq_true_iff, List.all_eq_true]
  simp
end Go.Proofs.Ytcffmmdgjifaaaa
namespace Go.Proofs.Ytcffmmdgjifaaaa
open Go.RowKit Go.Proofs.YtcffmmdgjifaaaaW.PrintWords Go.Proofs.YtcffmmdgjifaaaaW.PrintLast Go.Proofs.YtcffmmdgjifaaaaW.PrintMore
attribute [local go_sem] max2_int min2_int max_two min_two max_three min_three max_four min_four
set_option linter.unusedSimpArgs false
set_option linter.unusedVariables false
/-- an array of whole numbers in memory -/
def arrI (cs : List Int) : Array Value := (nums .i64 cs).toArray
theorem arrI_set (cs : List Int) (i : Nat) (x : Int) : (arrI cs).setIfInBounds i (.int .i64 x) = arrI (cs.set i x) := by
  unfold arrI nums; simp [List.map_set]
theorem arrI_get (cs : List Int) (i : Nat) (h : i < cs.length) : (arrI cs)[i]? = some (.int .i64 (cs.getD i 0)) := by
  unfold arrI nums; simp [List.getElem?_eq_getElem h]
theorem arrI_toList (cs : List Int) : (arrI cs).toList = nums .i64 cs := by simp [arrI]
theorem arr_reads {w : World} {g n : Nat} {t : TypeId} {cs : List Int} (h : w.heap[g]? = some (.cells (arrI cs) t (0, 0))) (hn : cs.length = n) (hm : n ≤ 9223372036854775807) : ReadsInt w .i64 (some ⟨g, 0, none⟩) n cs := by
  refine ⟨hn, hm, fun _ => ⟨_, rfl, fun j hj => ?_⟩⟩
  rw [add_plain, blk_cell h, arrI_get _ _ (by omega)]
theorem info_int : (Try.prog.info? 3).map (fun i => (i.zero, i.size, i.bytes)) = some (some (.int .i64 0), 1, 8) := by kernel_rfl
theorem info_u8 : (Try.prog.info? 5).map (fun i => (i.zero, i.size, i.bytes)) = some (some (.int .u8 0), 1, 1) := by kernel_rfl
theorem made_arr (m : Nat) : madeCells #[Value.int .i64 0] m = arrI (zeros m) := by
  apply Array.ext'
  rw [arrI_toList]
  apply List.ext_getElem
  · simp [nums, madeCells, zeros]
  · intro i h1 h2
    simp [nums, madeCells, zeros, Nat.mod_one]
theorem make_ints (m : Nat) (hm : m * 8 ≤ 281474976710656) (W : World) : Sem.run Try.prog (Instr.makeSlice 29 (.int .i64 (m : Int)) (.int .i64 (m : Int))) W = .ok (.slice (some ⟨W.heap.size, 0, none⟩) m m) (W.alloc (.cells (arrI (zeros m)) 3)) := by
  have := print_make (P := Try.prog) 29 3 .i64 8 Try.underlying29 info_int (by omega) m hm W
  rwa [made_arr] at this
theorem make_256 (W : World) : Sem.run Try.prog (Instr.makeSlice 29 (.int .i64 256) (.int .i64 256)) W = .ok (.slice (some ⟨W.heap.size, 0, none⟩) 256 256) (W.alloc (.cells (arrI (zeros 256)) 3)) := make_ints 256 (by omega) W
theorem zero_arr256 (W : World) : Sem.run Try.prog (zeroValue 58) W = .ok (.agg (arrI (zeros 256))) W := by kernel_rfl
set_option maxHeartbeats 1000000 in
set_option maxRecDepth 20000 in
theorem of_any (A : Option Addr) (l : List Int) (c : Nat) (w : World) (hr : ReadsInt w .u8 A l.length l) (hb : BytesOk l) :
    Calls Try.prog 23 #[.slice A l.length c] w fun e w' => ∃ v, e = .returned v ∧ w'.ownsRow w.heap.size 3 1 v 256 (nums .i64 (cnt l)) ∧ Below w.heap.size w w' := by
  have hz := zero_arr256
  have HR := Lib.hid hr
  have hl : l.length ≤ 9223372036854775807 := hr.2.1
  clear hr
  go_enter Try.func23, Try.ntmps23
  go_wp2
  clear hz
  go_loopg [8] l.length (fun k q wr => ∃ i : Nat, i ≤ l.length ∧ k = l.length - i ∧ q = .int .i64 i ∧ wr.heap[w.heap.size]? = some (.cells (arrI (cnt (l.take i))) 58 (0, 0)) ∧ Below w.heap.size w wr)
  case atStart => exact ⟨0, by omega, by omega, rfl, by rw [List.take_zero, cnt_nil]; exact heap_alloc_new w _, (Below.refl _ _).alloc (Nat.le_refl _) _⟩
  case round =>
    obtain ⟨i, hi, hk, rfl, hblk, hbel⟩ := hrel
    by_cases hlt : i < l.length
    · obtain ⟨x0, x1⟩ := hb.at i hlt
      obtain ⟨ad, hA, hc⟩ := reads_cell HR.out i hlt
      subst hA
      have hc' := pw_cell_below hbel hc
      have hlen := cnt_len (l.take i)
      have hg := blk_cell hblk (l.getD i 0).toNat
      rw [arrI_get _ _ (by omega)] at hg
      have hf := blk_frozen hblk (l.getD i 0).toNat
      have HS := Lib.hid (cnt_snoc (l.take i) (l.getD i 0) x0 x1)
      rw [← take_snoc' l i hlt] at HS
      have hbd : 0 ≤ (cnt (l.take i)).getD (l.getD i 0).toNat 0 ∧ (cnt (l.take i)).getD (l.getD i 0).toNat 0 ≤ i := by
        rw [cnt_get _ _ (by omega)]
        have := List.count_le_length (a := (((l.getD i 0).toNat : Nat) : Int)) (l := l.take i)
        rw [List.length_take] at this; omega
      have HB := Lib.hid hbel
      have HBLK := Lib.hid hblk
      have HK := Lib.hid hk
      clear hc hlen hbel hblk hk hb
      obtain ⟨X, hX⟩ : ∃ X : Nat, l.getD i 0 = X := ⟨(l.getD i 0).toNat, by omega⟩
      rw [hX] at hc' hg hf x0 x1 HS hbd
      rw [Int.toNat_natCast] at hg hf HS hbd
      clear hX
      obtain ⟨Y, hY⟩ : ∃ Y : Int, (cnt (l.take i)).getD X 0 = Y := ⟨_, rfl⟩
      rw [hY] at hg hbd HS
      clear hY
      go_wp2
      go_roundg (l.length - (i + 1))
      case measure => have := HK.out; omega
      case rel => exact ⟨i + 1, by omega, rfl, by go_num, by rw [HS.out, ← arrI_set]; exact blk_set HBLK.out _ _, HB.out.setCell (Nat.le_refl _) _⟩
    · have hii : i = l.length := by omega
      subst hii
      rw [take_all] at hblk
      have HB := Lib.hid hbel
      have HBLK := Lib.hid hblk
      clear hbel hblk hk hb
      have hlen := Lib.hid (cnt_len l)
      go_wp2_with (at_builtin; refine print_append_row (w0 := w) w.heap.size rfl _ _ 29 3 .i64 8 rfl Try.underlying29 info_int (by omega) _ [] (cnt l) _ _ _ rfl rfl (own_lit wr w.heap.size 3 .i64 [] HB.out.size (by simp)) (arr_reads (blk_alloc HBLK.out _) hlen.out (by omega)) (HB.out.alloc HB.out.size _) (by have := HB.out.size; simp; omega) (by simp) ?_; intro v1 w1 ho hb1 _ _)
      go_ret
      rw [List.nil_append, hlen.out] at ho
      exact ⟨_, rfl, ho, hb1⟩
end Go.Proofs.Ytcffmmdgjifaaaa
namespace Go.Proofs.Ytcffmmdgjifaaaa
open Go.RowKit Go.Proofs.YtcffmmdgjifaaaaW.PrintWords Go.Proofs.YtcffmmdgjifaaaaW.PrintLast Go.Proofs.YtcffmmdgjifaaaaW.PrintMore
attribute [local go_sem] max2_int min2_int max_two min_two max_three min_three max_four min_four
set_option linter.unusedSimpArgs false
set_option linter.unusedVariables false
open PPr (ctx_At.f ctx_At.calls)
theorem at_f {l : List Int} (hok : BytesOk l) (i : Nat) (hi : i < l.length) (hm : l.length ≤ 1099511627776) : PPr.ctx_At.f 9 l i = some (ctxAt l i) := by
  have hb : ¬ ((i : Int) < 0) := by omega
  have hb2 : ¬ ((i : Int) ≥ (l.length : Int)) := by omega
  unfold ctx_At.f
  rw [if_neg hb]
  simp only [decide_eq_false hb2, PPr.ctx_At.j0]
  rw [if_neg (by simp)]
  unfold ctxAt
  by_cases h0 : i = 0
  · rw [if_pos (by omega), if_pos h0]
  · have hw : wrap64 ((i : Int) - 1) = (i : Int) - 1 := w64 rfl (by omega) (by omega)
    rw [if_neg (by omega), if_neg h0, hw, if_pos (by omega), if_pos (by omega)]
    have hr : rd l ((i : Int) - 1) = l.getD (i - 1) 0 := by unfold rd; rw [show ((i : Int) - 1).toNat = i - 1 by omega]
    have := hok.at (i - 1) (by omega)
    rw [hr, w64 rfl (by omega) (by omega)]
theorem at_any (A : Option Addr) (l : List Int) (c i : Nat) (w : World) (hok : BytesOk l) (hm : l.length ≤ 1099511627776) (hr : ReadsInt w .u8 A l.length l) (hc : l.length ≤ c) (hi : i < l.length) :
    Calls Try.prog 29 #[.slice A l.length c, .int .i64 (i : Int)] w fun e w' => e = .returned (.int .i64 (ctxAt l i)) ∧ ∃ nq, w' = w.drewN nq := by
  refine (PPr.ctx_At.calls 9 A c l i (ctxAt l i) w (Kd.C_of_reads (d := (0 : Int)) hr) hc (at_f hok i hi hm)).mono ?_
  rintro e w' ⟨rfl, ⟨hd⟩⟩
  exact ⟨rfl, hd⟩
/-- the two captured variables -/
structure Cap (w : World) (gb gc : Nat) (A : Option Addr) (n cap : Nat) (c : Int) : Prop where
  B : w.heap[gb]? = some (.cells #[.slice A n cap] 25 (0, 0))
  C : w.heap[gc]? = some (.cells #[.int .i64 c] 3 (0, 0))
theorem Cap.below {w w1 : World} {gb gc : Nat} {A : Option Addr} {n cap : Nat} {c : Int} (h : Cap w gb gc A n cap c) (hb : Below w.heap.size w w1) : Cap w1 gb gc A n cap c :=
  ⟨(hb.block _ (blk_lt h.B)).trans h.B, (hb.block _ (blk_lt h.C)).trans h.C⟩
set_option maxHeartbeats 400000 in
theorem for1_any (gb gc : Nat) (A : Option Addr) (l : List Int) (cap : Nat) (c : Int) (i : Nat) (w : World) (hok : BytesOk l) (hm : l.length ≤ 1099511627776) (h : Cap w gb gc A l.length cap c) (hr : ReadsInt w .u8 A l.length l) (hc : l.length ≤ cap) (hi : i < l.length) :
    Calls Try.prog 45 #[.int .i64 (i : Int), .pointer (some ⟨gb, 0, none⟩), .pointer (some ⟨gc, 0, none⟩)] w fun e w' => e = .returned (.bool (ctxAt l i == c)) ∧ ∃ nq, w' = w.drewN nq := by
  have h0 := blk_cell h.B 0
  have h1 := blk_cell h.C 0
  simp at h0 h1
  have HR := Lib.hid hr
  have HK := Lib.hid hok
  clear h hr hok
  go_enter Try.func45, Try.ntmps45
  go_wp2
  go_quiet ((go_at_call 29; exact Calls.quiet_of (at_any A l cap i _ HK.out hm (HR.out.below (pw_below_drewN (Below.refl _ _) _)) hc hi)))
  go_wp2
  go_ret
  exact ⟨rfl, _, rfl⟩
theorem info_u8' : (Try.prog.info? 5).map (fun i => (i.zero, i.size, i.bytes)) = some (some (.int .u8 0), 1, 1) := by kernel_rfl
set_option maxHeartbeats 1000000 in
theorem picked_any (gb gc : Nat) (A : Option Addr) (l : List Int) (cap : Nat) (c : Int) (w : World) (hok : BytesOk l) (h : Cap w gb gc A l.length cap c) (hr : ReadsInt w .u8 A l.length l) (hc : l.length ≤ cap) (hm : l.length ≤ 1099511627776) :
    Calls Try.prog 44 #[.slice A l.length cap, .func (.func 45) #[] #[.pointer (some ⟨gb, 0, none⟩), .pointer (some ⟨gc, 0, none⟩)]] w fun e w' =>
      ∃ v, e = .returned v ∧ w'.ownsRow w.heap.size 5 1 v (pickTo l c l.length).length (nums .u8 (pickTo l c l.length)) ∧ Below w.heap.size w w' := by
  have HR := Lib.hid hr
  have HC := Lib.hid h
  have HY := Lib.hid hok
  clear h hr hok
  go_enter Try.func44, Try.ntmps44
  go_wp2
  go_loopg [5, 10] l.length (fun k v q wr => ∃ i : Nat, i ≤ l.length ∧ k = l.length - i ∧ q = .int .i64 i ∧ wr.ownsRow w.heap.size 5 1 v (pickTo l c i).length (nums .u8 (pickTo l c i)) ∧ Below w.heap.size w wr)
  case atStart => exact ⟨0, by omega, by omega, rfl, own_nil _ _ _ _, Below.refl _ _⟩
  case round =>
    obtain ⟨i, hi, hk, rfl, ho, hb⟩ := hrel
    have HK := Lib.hid hk
    have HO := Lib.hid ho
    have HB := Lib.hid hb
    clear hk ho hb
    by_cases hlt : i < l.length
    · obtain ⟨ad, hA, hcell⟩ := reads_cell (HR.out.below HB.out) i hlt
      subst hA
      have HL := Lib.hid (pickTo_len l c i)
      by_cases he : ctxAt l i = c
      · have HE := Lib.hid (show (ctxAt l i == c) = true from beq_iff_eq.2 he)
        have HP := Lib.hid (pickTo_hit l c i he)
        clear he
        obtain ⟨X, hX⟩ : ∃ X, l.getD i 0 = X := ⟨_, rfl⟩
        rw [hX] at hcell HP
        clear hX
        go_wp2_with (first
          | (go_at_call 45; (with_reducible refine (for1_any gb gc (some ad) l cap c i _ HY.out hm (HC.out.below HB.out) (HR.out.below HB.out) hc hlt).mono ?_); rintro e w1 ⟨rfl, nq, rfl⟩; rw [HE.out])
          | (at_builtin; refine print_append_num (w0 := w) w.heap.size rfl (.tmp 18) (.tmp 20) 25 5 .u8 1 rfl Try.underlying25 info_u8' (by omega) _ (pickTo l c i) X rfl rfl (pw_own_below HO.out (pw_below_drewN (Below.refl _ _) _)) (pw_below_drewN HB.out _) HB.out.size (by have := HL.out; omega) ?_; intro v1 w1 ho1 hb1 _ _))
        go_roundg (l.length - (i + 1))
        case measure => have := HK.out; omega
        case rel => exact ⟨i + 1, by omega, rfl, by go_num, by rw [HP.out]; exact ho1, hb1⟩
      · have HE := Lib.hid (show (ctxAt l i == c) = false from beq_eq_false_iff_ne.2 he)
        have HP := Lib.hid (pickTo_miss l c i he)
        clear he
        go_wp2_with (first
          | (go_at_call 45; (with_reducible refine (for1_any gb gc (some ad) l cap c i _ HY.out hm (HC.out.below HB.out) (HR.out.below HB.out) hc hlt).mono ?_); rintro e w1 ⟨rfl, nq, rfl⟩; rw [HE.out]))
        go_roundg (l.length - (i + 1))
        case measure => have := HK.out; omega
        case rel => exact ⟨i + 1, by omega, rfl, by go_num, by rw [HP.out]; exact pw_own_below HO.out (pw_below_drewN (Below.refl _ _) _), pw_below_drewN HB.out _⟩
    · obtain rfl : i = l.length := by omega
      go_wp2
      go_ret
      exact ⟨_, rfl, HO.out, HB.out⟩
set_option maxHeartbeats 1000000 in
theorem for_any (A : Option Addr) (l : List Int) (cap : Nat) (c : Int) (w : World) (hr : ReadsInt w .u8 A l.length l) (hc : l.length ≤ cap) (hm : l.length ≤ 1099511627776) (hok : BytesOk l) :
    Calls Try.prog 22 #[.slice A l.length cap, .int .i64 c] w fun e w' => ∃ v, e = .returned v ∧ w'.ownsRow w.heap.size 3 1 v 256 (nums .i64 (cnt (pickTo l c l.length))) ∧ Below w.heap.size w w' := by
  have HR := Lib.hid hr
  have HB := Lib.hid (((Below.refl w.heap.size w).alloc (Nat.le_refl _) (.cells #[.slice A l.length cap] 25)).alloc (by simp) (.cells #[.int .i64 c] 3))
  have HC := Lib.hid (⟨by simpa using blk_alloc (heap_alloc_new w (.cells #[.slice A l.length cap] 25)) _, by simpa using heap_alloc_new (w.alloc (.cells #[.slice A l.length cap] 25)) (.cells #[.int .i64 c] 3)⟩ : Cap ((w.alloc (.cells #[.slice A l.length cap] 25)).alloc (.cells #[.int .i64 c] 3)) w.heap.size (w.heap.size + 1) A l.length cap c)
  have HY := Lib.hid hok
  have HP := Lib.hid (pickTo_ok hok c l.length (Nat.le_refl _))
  clear hr hok
  go_enter Try.func22, Try.ntmps22
  go_wp2_with (first
    | (go_at_call 44; go_must ((with_reducible refine (picked_any _ _ A l cap c _ HY.out HC.out (HR.out.below HB.out) hc hm).mono ?_); rintro e w1 ⟨v, rfl, ho, hb⟩; obtain ⟨A1, c1, rfl, hle, hr1⟩ := own_reads' ho; have HR1 := Lib.hid hr1; have HB1 := Lib.hid (below_then' HB.out hb); clear ho hb hr1))
    | (go_at_call 23; go_must ((with_reducible refine (of_any A1 (pickTo l c l.length) c1 _ HR1.out HP.out).mono ?_); rintro e w2 ⟨v, rfl, ho, hb⟩; have HO := Lib.hid (own_weaken ho HB1.out.size); have HB2 := Lib.hid (below_then' HB1.out hb); clear ho hb)))
  go_ret
  exact ⟨_, rfl, HO.out, HB2.out⟩
def arrB (bs : List Bool) : Array Value := (bools bs).toArray
theorem arrB_set (bs : List Bool) (i : Nat) (x : Bool) : (arrB bs).setIfInBounds i (.bool x) = arrB (bs.set i x) := by
  unfold arrB bools; simp [List.map_set]
theorem arrB_get (bs : List Bool) (i : Nat) (h : i < bs.length) : (arrB bs)[i]? = some (.bool (bs.getD i false)) := by
  unfold arrB bools; simp [List.getElem?_eq_getElem h]
theorem arrB_size (bs : List Bool) : (arrB bs).size = bs.length := by unfold arrB bools; simp
theorem zero_arrB (W : World) : Sem.run Try.prog (zeroValue 74) W = .ok (.agg (arrB (List.replicate 256 false))) W := by kernel_rfl
theorem info_int' : (Try.prog.info? 3).map (fun i => (i.zero, i.size, i.bytes)) = some (some (.int .i64 0), 1, 8) := by kernel_rfl
theorem idx_arrB (bs : List Bool) (k : Nat) (hk : k < 256) (hl : bs.length = 256) (W : World) :
    Sem.run Try.prog (Instr.index 74 (.agg (arrB bs)) (.int .i64 (k : Int))) W = .ok (.bool (bs.getD k false)) W := by
  have h1 : (0 : Int) ≤ k ∧ (k : Int) < 256 := by omega
  have hg := arrB_get bs k (by omega)
  simp [Instr.index, run_underlying Try.underlying74, asIntOf, go_sem, h1, part]
  rw [if_pos hk, hg]
  simp
set_option maxHeartbeats 1000000 in
set_option maxRecDepth 20000 in
theorem present_any (A : Option Addr) (l : List Int) (cap : Nat) (w : World) (hr : ReadsInt w .u8 A l.length l) (hc : l.length ≤ cap) (hm : l.length ≤ 1099511627776) (hok : BytesOk l) :
    Calls Try.prog 55 #[.slice A l.length cap] w fun e w' => ∃ v, e = .returned v ∧ w'.ownsRow w.heap.size 3 1 v (presTo (metTo l l.length) 256).length (nums .i64 (presTo (metTo l l.length) 256)) ∧ Below w.heap.size w w' := by
  have hz := zero_arrB
  have HR := Lib.hid hr
  have HY := Lib.hid hok
  clear hr hok
  go_enter Try.func55, Try.ntmps55
  go_wp2
  clear hz
  go_loopg [10] l.length (fun k q wr => ∃ i : Nat, i ≤ l.length ∧ k = l.length - i ∧ q = .int .i64 i ∧ wr.heap[w.heap.size]? = some (.cells (arrB (metTo l i)) 74 (0, 0)) ∧ Below w.heap.size w wr)
  case atStart => exact ⟨0, by omega, by omega, rfl, by rw [metTo]; exact heap_alloc_new w _, (Below.refl _ _).alloc (Nat.le_refl _) _⟩
  case round =>
    obtain ⟨i, hi, hk, rfl, hblk, hb⟩ := hrel
    have HK := Lib.hid hk
    have HB := Lib.hid hb
    have HBLK := Lib.hid hblk
    clear hk hb hblk
    by_cases hlt : i < l.length
    · have hbd := ctxAt_ok HY.out i hlt
      obtain ⟨X, hX⟩ : ∃ X : Nat, ctxAt l i = X := ⟨(ctxAt l i).toNat, by omega⟩
      have hlen := metTo_len l i
      have HS := Lib.hid (show metTo l (i + 1) = (metTo l i).set X true by rw [metTo, hX, Int.toNat_natCast])
      rw [hX] at hbd
      have HX := Lib.hid hX
      have hg := blk_cell HBLK.out X
      rw [arrB_get _ _ (by omega)] at hg
      have hf := blk_frozen HBLK.out X
      clear hX hlen
      go_wp2_with (go_at_call 29; (with_reducible refine (at_any A l cap i _ HY.out hm (HR.out.below HB.out) hc hlt).mono ?_); rintro e w1 ⟨rfl, nq, rfl⟩; rw [HX.out])
      go_roundg (l.length - (i + 1))
      case measure => have := HK.out; omega
      case rel => exact ⟨i + 1, by omega, rfl, by go_num, by rw [HS.out, ← arrB_set]; exact blk_set (blk_drewN HBLK.out _) _ _, (pw_below_drewN HB.out _).setCell (Nat.le_refl _) _⟩
    · obtain rfl : i = l.length := by omega
      have hlen := metTo_len l l.length
      obtain ⟨bs, hbs⟩ : ∃ bs, metTo l l.length = bs := ⟨_, rfl⟩
      rw [hbs] at HBLK hlen
      have HBS := Lib.hid hbs
      clear hbs
      have HL := Lib.hid hlen
      have HSZ := Lib.hid (show (Try.prog.info? 74).map (·.size) = some (arrB bs).size by rw [arrB_size, hlen]; kernel_rfl)
      have hix := fun (k : Nat) (hk : k < 256) (W : World) => idx_arrB bs k hk hlen W
      have HIX := Lib.hid hix
      clear hlen hix
      go_wp2_with (refine wpList_load_row rfl 74 (.tmp 3) rfl w.heap.size rfl _ _ _ _ HBLK.out Try.underlying74 rfl HSZ.out ?_)
      go_loopg [5, 19] 256 (fun k v q w2 => ∃ i : Nat, i ≤ 256 ∧ k = 256 - i ∧ q = .int .i64 i ∧ w2.ownsRow w.heap.size 3 1 v (presTo bs i).length (nums .i64 (presTo bs i)) ∧ Below w.heap.size w w2)
      case atStart => exact ⟨0, by omega, by omega, rfl, own_nil _ _ _ _, HB.out⟩
      case round =>
        clear HBLK HB HK
        obtain ⟨i, hi, hk, rfl, ho, hb⟩ := hrel
        have HK := Lib.hid hk
        have HO := Lib.hid ho
        have HB := Lib.hid hb
        clear hk ho hb
        by_cases hlt2 : i < 256
        · have hix := HIX.out i hlt2
          have HLN := Lib.hid (presTo_len bs i)
          cases hb : bs.getD i false with
          | true =>
            have HP := Lib.hid (presTo_hit bs i hb)
            rw [hb] at hix
            clear hb
            go_wp2_with (at_builtin; refine print_append_num (w0 := w) w.heap.size rfl (.tmp 24) (.tmp 26) 29 3 .i64 8 rfl Try.underlying29 info_int' (by omega) _ (presTo bs i) (i : Int) rfl rfl HO.out HB.out HB.out.size (by have := HLN.out; omega) ?_; intro v1 w1 ho1 hb1 _ _)
            go_roundg (256 - (i + 1))
            case measure => have := HK.out; omega
            case rel => exact ⟨i + 1, by omega, rfl, by go_num, by rw [HP.out]; exact ho1, hb1⟩
          | false =>
            have HP := Lib.hid (presTo_miss bs i hb)
            rw [hb] at hix
            clear hb
            go_wp2
            go_roundg (256 - (i + 1))
            case measure => have := HK.out; omega
            case rel => exact ⟨i + 1, by omega, rfl, by go_num, by rw [HP.out]; exact HO.out, HB.out⟩
        · obtain rfl : i = 256 := by omega
          go_wp2
          go_ret
          exact ⟨_, rfl, by rw [HBS.out]; exact HO.out, HB.out⟩
end Go.Proofs.Ytcffmmdgjifaaaa
