/- Plain lists as heaps: what container/heap does to a list, step by step; an order is a Bool function. A heap's laws, over plain lists: what comes off is a least one, what is left are the others, and a heap. Heaps as sets: what comes off, what goes in. Heaps over two orders that agree on a list's elements are one. -/
namespace Go.Proofs.Ytcffmmdgjifaaaa
set_option linter.unusedVariables false
namespace Hp
variable {α : Type}
/-- two elements change places -/
def swap (d : α) (l : List α) (i j : Nat) : List α := (l.set i (l.getD j d)).set j (l.getD i d)
/-- down: k bounds the rounds -/
def down (d : α) (lt : α → α → Bool) : Nat → List α → Nat → Nat → List α
  | 0, l, _, _ => l
  | k + 1, l, i, n =>
    if 2 * i + 1 ≥ n then l else
    let j := if 2 * i + 2 < n ∧ lt (l.getD (2 * i + 2) d) (l.getD (2 * i + 1) d) = true then 2 * i + 2 else 2 * i + 1
    if lt (l.getD j d) (l.getD i d) = true then down d lt k (swap d l i j) j n else l
/-- up -/
def up (d : α) (lt : α → α → Bool) : Nat → List α → Nat → List α
  | 0, l, _ => l
  | k + 1, l, j =>
    if (j - 1) / 2 = j then l else
    if lt (l.getD j d) (l.getD ((j - 1) / 2) d) = true then up d lt k (swap d l ((j - 1) / 2) j) ((j - 1) / 2) else l
/-- the first i places, the last one first, go down -/
def initTo (d : α) (lt : α → α → Bool) : Nat → List α → List α
  | 0, l => l
  | i + 1, l => initTo d lt i (down d lt l.length l i l.length)
def init (d : α) (lt : α → α → Bool) (l : List α) : List α := initTo d lt (l.length / 2) l
/-- all but the first one, of at least one -/
def pop (d : α) (lt : α → α → Bool) (l : List α) : List α := down d lt l.length (swap d l 0 (l.length - 1)) 0 (l.length - 1)
def push (d : α) (lt : α → α → Bool) (l : List α) (x : α) : List α := up d lt (l.length + 1) (l ++ [x]) l.length
theorem swap_len (d : α) (l : List α) (i j : Nat) : (swap d l i j).length = l.length := by simp [swap]
theorem down_len (d : α) (lt : α → α → Bool) : ∀ k (l : List α) i n, (down d lt k l i n).length = l.length
  | 0, _, _, _ => rfl
  | k + 1, l, i, n => by
    unfold down
    split
    · rfl
    · dsimp only
      split <;> split <;> simp [down_len d lt k, swap_len]
theorem up_len (d : α) (lt : α → α → Bool) : ∀ k (l : List α) j, (up d lt k l j).length = l.length
  | 0, _, _ => rfl
  | k + 1, l, j => by
    unfold up
    split
    · rfl
    · split <;> simp [up_len d lt k, swap_len]
theorem initTo_len (d : α) (lt : α → α → Bool) : ∀ i (l : List α), (initTo d lt i l).length = l.length
  | 0, _ => rfl
  | i + 1, l => by rw [initTo, initTo_len d lt i, down_len]
theorem init_len (d : α) (lt : α → α → Bool) (l : List α) : (init d lt l).length = l.length := initTo_len d lt _ l
theorem pop_len (d : α) (lt : α → α → Bool) (l : List α) : (pop d lt l).length = l.length := by rw [pop, down_len, swap_len]
theorem push_len (d : α) (lt : α → α → Bool) (l : List α) (x : α) : (push d lt l x).length = l.length + 1 := by rw [push, up_len]; simp
end Hp
end Go.Proofs.Ytcffmmdgjifaaaa
namespace Go.Proofs.Ytcffmmdgjifaaaa
set_option linter.unusedVariables false
namespace Hp
variable {α : Type} (d : α) (lt : α → α → Bool)
/-- an order: 'not less' goes on, and what is less isn't greater -/
structure Ord : Prop where
  tr : ∀ x y z, lt y x = false → lt z y = false → lt z x = false
  as_ : ∀ x y, lt x y = true → lt y x = false
  irr : ∀ x, lt x x = false
theorem swap_perm (l : List α) (i j : Nat) (hi : i < l.length) (hj : j < l.length) : (swap d l i j).Perm l := by
  have h := List.set_set_perm (as := l) hi hj
  unfold swap
  rw [List.getD_eq_getElem?_getD, List.getD_eq_getElem?_getD, List.getElem?_eq_getElem hi, List.getElem?_eq_getElem hj]
  exact h
theorem swap_get (l : List α) (i j k : Nat) (hi : i < l.length) (hj : j < l.length) : (swap d l i j).getD k d = if k = j then l.getD i d else if k = i then l.getD j d else l.getD k d := by
  unfold swap
  simp only [List.getD_eq_getElem?_getD]
  by_cases h1 : k = j
  · subst h1
    rw [if_pos rfl, List.getElem?_set_self (by rw [List.length_set]; exact hj)]; rfl
  · rw [if_neg h1, List.getElem?_set_ne (fun h => h1 h.symm)]
    by_cases h2 : k = i
    · subst h2
      rw [if_pos rfl, List.getElem?_set_self hi]; rfl
    · rw [if_neg h2, List.getElem?_set_ne (fun h => h2 h.symm)]
/-- up to n, each one whose parent stands from a on is no less than it -/
def From (l : List α) (a n : Nat) : Prop := ∀ j, 0 < j → j < n → a ≤ (j - 1) / 2 → lt (l.getD j d) (l.getD ((j - 1) / 2) d) = false
/-- the same, but for the children of i; these are no less than i's parent -/
structure But (l : List α) (a n i : Nat) : Prop where
  h : ∀ j, 0 < j → j < n → a ≤ (j - 1) / 2 → (j - 1) / 2 ≠ i → lt (l.getD j d) (l.getD ((j - 1) / 2) d) = false
  g : ∀ j, 0 < j → j < n → (j - 1) / 2 = i → 0 < i → a ≤ (i - 1) / 2 → lt (l.getD j d) (l.getD ((i - 1) / 2) d) = false
theorem down_heap (O : Ord lt) : ∀ (k : Nat) (l : List α) (a n i : Nat), n ≤ k + i → n ≤ l.length → a ≤ i → i < l.length → But d lt l a n i → From d lt (down d lt k l i n) a n
  | 0, l, a, n, i, hk, hn, hai, hi, hb => by
    intro j h0 hj ha
    exact hb.h j h0 hj ha (by omega)
  | k + 1, l, a, n, i, hk, hn, hai, hi, hb => by
    unfold down
    by_cases h1 : 2 * i + 1 ≥ n
    · rw [if_pos h1]
      intro j h0 hj ha
      exact hb.h j h0 hj ha (by omega)
    rw [if_neg h1]
    dsimp only
    -- the lesser child
    generalize hc : (if 2 * i + 2 < n ∧ lt (l.getD (2 * i + 2) d) (l.getD (2 * i + 1) d) = true then 2 * i + 2 else 2 * i + 1) = c
    have hcn : c < n ∧ (c - 1) / 2 = i ∧ 0 < c := by
      subst hc; split <;> omega
    have hmin : ∀ j, 0 < j → j < n → (j - 1) / 2 = i → lt (l.getD j d) (l.getD c d) = false := by
      intro j h0 hj hp
      have hj2 : j = 2 * i + 1 ∨ j = 2 * i + 2 := by omega
      subst hc
      split
      · rename_i hh
        rcases hj2 with rfl | rfl
        · exact O.as_ _ _ hh.2
        · exact O.irr _
      · rename_i hh
        rcases hj2 with rfl | rfl
        · exact O.irr _
        · cases hl : lt (l.getD (2 * i + 2) d) (l.getD (2 * i + 1) d) with
          | false => rfl
          | true => exact absurd ⟨hj, hl⟩ hh
    by_cases h2 : lt (l.getD c d) (l.getD i d) = true
    · rw [if_pos h2]
      refine down_heap O k _ a n c (by omega) (by rw [swap_len]; exact hn) (by omega) (by rw [swap_len]; omega) ⟨?_, ?_⟩
      · intro j h0 hj ha hp
        rw [swap_get d l i c j hi (by omega), swap_get d l i c _ hi (by omega)]
        by_cases e1 : j = c
        · subst e1
          rw [if_pos rfl, if_neg (by omega), hcn.2.1, if_pos rfl]
          exact O.as_ _ _ h2
        · rw [if_neg e1, if_neg hp]
          by_cases e2 : j = i
          · subst e2
            rw [if_pos rfl, if_neg (by omega)]
            exact hb.g c hcn.2.2 hcn.1 hcn.2.1 h0 ha
          · rw [if_neg e2]
            by_cases e3 : (j - 1) / 2 = i
            · rw [if_pos e3]; exact hmin j h0 hj e3
            · rw [if_neg e3]; exact hb.h j h0 hj ha e3
      · intro j h0 hj hp hc0 ha
        rw [swap_get d l i c j hi (by omega), swap_get d l i c _ hi (by omega), if_neg (by omega), if_neg (by omega), if_neg (by omega), hcn.2.1, if_pos rfl]
        have := hb.h j h0 hj (by omega) (by omega)
        rw [hp] at this
        exact this
    · rw [if_neg h2]
      intro j h0 hj ha
      by_cases e : (j - 1) / 2 = i
      · rw [e]
        exact O.tr _ _ _ (by simpa using h2) (hmin j h0 hj e)
      · exact hb.h j h0 hj ha e
theorem down_perm : ∀ (k : Nat) (l : List α) (i n : Nat), n ≤ l.length → i < l.length → (down d lt k l i n).Perm l
  | 0, l, i, n, _, _ => List.Perm.refl _
  | k + 1, l, i, n, hn, hi => by
    unfold down
    split
    · exact List.Perm.refl _
    · dsimp only
      split
      · split
        · exact (down_perm k _ _ _ (by rw [swap_len]; omega) (by rw [swap_len]; omega)).trans (swap_perm d l _ _ hi (by omega))
        · exact List.Perm.refl _
      · split
        · exact (down_perm k _ _ _ (by rw [swap_len]; omega) (by rw [swap_len]; omega)).trans (swap_perm d l _ _ hi (by omega))
        · exact List.Perm.refl _
/-- behind n nothing is turned -/
theorem down_far : ∀ (k : Nat) (l : List α) (i n j : Nat), n ≤ l.length → i < n → n ≤ j → (down d lt k l i n).getD j d = l.getD j d
  | 0, l, i, n, j, _, _, _ => rfl
  | k + 1, l, i, n, j, hn, hi, hj => by
    unfold down
    split
    · rfl
    · dsimp only
      split
      · split
        · rw [down_far k _ _ _ _ (by rw [swap_len]; omega) (by omega) hj, swap_get d l _ _ _ (by omega) (by omega), if_neg (by omega), if_neg (by omega)]
        · rfl
      · split
        · rw [down_far k _ _ _ _ (by rw [swap_len]; omega) (by omega) hj, swap_get d l _ _ _ (by omega) (by omega), if_neg (by omega), if_neg (by omega)]
        · rfl
/-- a heap: from the top on -/
def Heap (l : List α) : Prop := From d lt l 0 l.length
theorem initTo_heap (O : Ord lt) : ∀ (i : Nat) (l : List α), i ≤ l.length / 2 → From d lt l i l.length → Heap d lt (initTo d lt i l) ∧ (initTo d lt i l).Perm l
  | 0, l, _, h => ⟨h, List.Perm.refl _⟩
  | i + 1, l, hi, h => by
    rw [initTo]
    have hf := down_heap d lt O l.length l i l.length i (by omega) (Nat.le_refl _) (Nat.le_refl _) (by omega) ⟨fun j h0 hj ha hp => h j h0 hj (by omega), fun j h0 hj hp hi0 ha => by omega⟩
    have hl := down_len d lt l.length l i l.length
    obtain ⟨h1, h2⟩ := initTo_heap O i (down d lt l.length l i l.length) (by rw [hl]; omega) (by rw [hl]; exact hf)
    exact ⟨h1, h2.trans (down_perm d lt _ _ _ _ (Nat.le_refl _) (by omega))⟩
theorem init_heap (O : Ord lt) (l : List α) : Heap d lt (init d lt l) ∧ (init d lt l).Perm l :=
  initTo_heap d lt O _ l (Nat.le_refl _) (fun j h0 hj ha => by omega)
/-- the top is a least one -/
theorem top_least (O : Ord lt) (l : List α) (h : Heap d lt l) : ∀ j, j < l.length → lt (l.getD j d) (l.getD 0 d) = false := by
  intro j
  induction j using Nat.strongRecOn with
  | _ j ih =>
    intro hj
    rcases Nat.eq_zero_or_pos j with h0 | h0
    · subst h0; exact O.irr _
    · exact O.tr _ _ _ (ih ((j - 1) / 2) (by omega) (by omega)) (h j h0 hj (Nat.zero_le _))
theorem mem_getD {l : List α} {y : α} (h : y ∈ l) : ∃ j, j < l.length ∧ l.getD j d = y := by
  obtain ⟨j, hj, e⟩ := List.mem_iff_getElem.1 h
  exact ⟨j, hj, by rw [List.getD_eq_getElem?_getD, List.getElem?_eq_getElem hj]; exact e⟩
theorem take_last (l : List α) (h : 0 < l.length) : l = l.take (l.length - 1) ++ [l.getD (l.length - 1) d] := by
  have h1 := List.take_append_drop (l.length - 1) l
  rw [List.drop_eq_getElem_cons (by omega), List.drop_of_length_le (by omega)] at h1
  rw [List.getD_eq_getElem?_getD, List.getElem?_eq_getElem (by omega)]
  exact h1.symm
/-- what comes off: the element, the others, and that these are a heap -/
theorem pop_heap (O : Ord lt) (l : List α) (h : Heap d lt l) (hp : 0 < l.length) :
    (∀ y, y ∈ l → lt y ((pop d lt l).getD (l.length - 1) d) = false) ∧ Heap d lt ((pop d lt l).take (l.length - 1)) ∧ ((pop d lt l).take (l.length - 1) ++ [(pop d lt l).getD (l.length - 1) d]).Perm l := by
  have hlen := pop_len d lt l
  have hx : (pop d lt l).getD (l.length - 1) d = l.getD 0 d := by
    unfold pop
    rcases Nat.lt_or_ge 0 (l.length - 1) with h1 | h1
    · rw [down_far d lt _ _ _ _ _ (by rw [swap_len]; omega) h1 (Nat.le_refl _), swap_get d l _ _ _ hp (by omega), if_pos rfl]
    · have e : l.length - 1 = 0 := by omega
      rw [e]
      have hd : ∀ k m, down d lt k m 0 0 = m := by
        intro k m
        cases k with
        | zero => rfl
        | succ k => unfold down; rw [if_pos (by omega)]
      rw [hd, swap_get d l 0 0 0 hp hp, if_pos rfl]
  have hperm : (pop d lt l).Perm l := by
    unfold pop
    exact (down_perm d lt _ _ _ _ (by rw [swap_len]; omega) (by rw [swap_len]; omega)).trans (swap_perm d l _ _ hp (by omega))
  refine ⟨?_, ?_, ?_⟩
  · intro y hy
    obtain ⟨j, hj, rfl⟩ := mem_getD d hy
    rw [hx]; exact top_least d lt O l h j hj
  · have hf : From d lt (pop d lt l) 0 (l.length - 1) := by
      unfold pop
      refine down_heap d lt O _ _ 0 _ 0 (by omega) (by rw [swap_len]; omega) (Nat.le_refl _) (by rw [swap_len]; omega) ⟨?_, ?_⟩
      · intro j h0 hj ha hp2
        rw [swap_get d l _ _ _ hp (by omega), swap_get d l _ _ _ hp (by omega), if_neg (by omega), if_neg (by omega), if_neg (by omega), if_neg (by omega)]
        exact h j h0 (by omega) (Nat.zero_le _)
      · intro j h0 hj hp2 hi0; omega
    intro j h0 hj ha
    rw [List.length_take] at hj
    have e : ∀ i, i < l.length - 1 → ((pop d lt l).take (l.length - 1)).getD i d = (pop d lt l).getD i d := by
      intro i hi
      rw [List.getD_eq_getElem?_getD, List.getD_eq_getElem?_getD, List.getElem?_take, if_pos hi]
    rw [e _ (by omega), e _ (by omega)]
    exact hf j h0 (by omega) ha
  · have := take_last d (pop d lt l) (by rw [hlen]; exact hp)
    rw [hlen] at this
    rw [← this]; exact hperm
/-- all but j, whose children are no less than its parent -/
theorem up_heap (O : Ord lt) : ∀ (k : Nat) (l : List α) (j : Nat), j < k → j < l.length →
    (∀ i, 0 < i → i < l.length → i ≠ j → lt (l.getD i d) (l.getD ((i - 1) / 2) d) = false) →
    (∀ i, 0 < i → i < l.length → (i - 1) / 2 = j → 0 < j → lt (l.getD i d) (l.getD ((j - 1) / 2) d) = false) → Heap d lt (up d lt k l j) ∧ (up d lt k l j).Perm l
  | 0, l, j, hk, _, _, _ => by omega
  | k + 1, l, j, hk, hj, h1, h2 => by
    unfold up
    by_cases e : (j - 1) / 2 = j
    · rw [if_pos e]
      exact ⟨fun i h0 hi _ => h1 i h0 hi (by omega), List.Perm.refl _⟩
    · rw [if_neg e]
      by_cases hl : lt (l.getD j d) (l.getD ((j - 1) / 2) d) = true
      · rw [if_pos hl]
        have hs := swap_len d l ((j - 1) / 2) j
        obtain ⟨a, b⟩ := up_heap O k (swap d l ((j - 1) / 2) j) ((j - 1) / 2) (by omega) (by rw [hs]; omega) (by
          intro i h0 hi hne
          rw [hs] at hi
          rw [swap_get d l _ _ _ (by omega) hj, swap_get d l _ _ _ (by omega) hj]
          by_cases e1 : i = j
          · subst e1
            rw [if_pos rfl, if_neg (by omega), if_pos rfl]
            exact O.as_ _ _ hl
          · rw [if_neg e1, if_neg hne]
            by_cases e2 : (i - 1) / 2 = j
            · rw [if_pos e2]
              exact h2 i h0 hi e2 (by omega)
            · rw [if_neg e2]
              by_cases e3 : (i - 1) / 2 = (j - 1) / 2
              · rw [if_pos e3]
                have := h1 i h0 hi e1
                rw [e3] at this
                exact O.tr _ _ _ (O.as_ _ _ hl) this
              · rw [if_neg e3]; exact h1 i h0 hi e1) (by
          intro i h0 hi hp hp0
          rw [hs] at hi
          rw [swap_get d l _ _ _ (by omega) hj, swap_get d l _ _ _ (by omega) hj, if_neg (show ¬ ((j - 1) / 2 - 1) / 2 = j by omega), if_neg (show ¬ ((j - 1) / 2 - 1) / 2 = (j - 1) / 2 by omega)]
          have hpp := h1 ((j - 1) / 2) hp0 (by omega) (by omega)
          by_cases e1 : i = j
          · subst e1; rw [if_pos rfl]; exact hpp
          · rw [if_neg e1, if_neg (by omega)]
            have := h1 i h0 hi e1
            rw [hp] at this
            exact O.tr _ _ _ hpp this)
        exact ⟨a, b.trans (swap_perm d l _ _ (by omega) hj)⟩
      · rw [if_neg hl]
        refine ⟨fun i h0 hi _ => ?_, List.Perm.refl _⟩
        by_cases e1 : i = j
        · subst e1; simpa using hl
        · exact h1 i h0 hi e1
theorem push_heap (O : Ord lt) (l : List α) (x : α) (h : Heap d lt l) : Heap d lt (push d lt l x) ∧ (push d lt l x).Perm (l ++ [x]) := by
  have hlen : (l ++ [x]).length = l.length + 1 := by simp
  have e : ∀ i, i < l.length → (l ++ [x]).getD i d = l.getD i d := by
    intro i hi
    rw [List.getD_eq_getElem?_getD, List.getD_eq_getElem?_getD, List.getElem?_append_left hi]
  unfold push
  refine up_heap d lt O _ _ _ (by omega) (by omega) (fun i h0 hi hne => ?_) (fun i h0 hi hp hj => by omega)
  rw [hlen] at hi
  rw [e _ (by omega), e _ (by omega)]
  exact h i h0 (by omega) (Nat.zero_le _)
end Hp
end Go.Proofs.Ytcffmmdgjifaaaa
namespace Go.Proofs.Ytcffmmdgjifaaaa
set_option linter.unusedVariables false
namespace Hp
variable {α : Type} (d : α) (lt : α → α → Bool)
theorem pop_set (O : Ord lt) (l : List α) (h : Heap d lt l) (hn : l.Nodup) (hp : 0 < l.length) :
    ∃ x, (pop d lt l).getD (l.length - 1) d = x ∧ x ∈ l ∧ (∀ y, y ∈ l → lt y x = false) ∧ Heap d lt ((pop d lt l).take (l.length - 1)) ∧ ((pop d lt l).take (l.length - 1)).Nodup ∧ ∀ y, y ∈ (pop d lt l).take (l.length - 1) ↔ y ∈ l ∧ y ≠ x := by
  obtain ⟨h1, h2, h3⟩ := pop_heap d lt O l h hp
  have hn2 := h3.nodup_iff.2 hn
  rw [List.nodup_append] at hn2
  refine ⟨_, rfl, h3.mem_iff.1 (by simp), h1, h2, hn2.1, fun y => ?_⟩
  rw [← h3.mem_iff, List.mem_append, List.mem_singleton]
  constructor
  · intro hy; exact ⟨.inl hy, hn2.2.2 y hy _ (by simp)⟩
  · rintro ⟨hy | hy, hne⟩
    · exact hy
    · exact absurd hy hne
theorem push_set (O : Ord lt) (l : List α) (x : α) (h : Heap d lt l) (hn : l.Nodup) (hx : x ∉ l) :
    Heap d lt (push d lt l x) ∧ (push d lt l x).Nodup ∧ ∀ y, y ∈ push d lt l x ↔ y ∈ l ∨ y = x := by
  obtain ⟨h1, h2⟩ := push_heap d lt O l x h
  refine ⟨h1, h2.nodup_iff.2 ?_, fun y => by rw [h2.mem_iff]; simp⟩
  rw [List.nodup_append]
  exact ⟨hn, by simp, fun a ha b hb e => hx (by simp at hb; rw [← hb, ← e]; exact ha)⟩
theorem init_set (O : Ord lt) (l : List α) (hn : l.Nodup) : Heap d lt (init d lt l) ∧ (init d lt l).Nodup ∧ ∀ y, y ∈ init d lt l ↔ y ∈ l := by
  obtain ⟨h1, h2⟩ := init_heap d lt O l
  exact ⟨h1, h2.nodup_iff.2 hn, fun y => h2.mem_iff⟩
end Hp
end Go.Proofs.Ytcffmmdgjifaaaa
namespace Go.Proofs.Ytcffmmdgjifaaaa
set_option linter.unusedVariables false
namespace Hp
variable {α : Type} (d : α) (lt lt' : α → α → Bool)
def Agree (l : List α) : Prop := ∀ x, x ∈ l → ∀ y, y ∈ l → lt x y = lt' x y
theorem Agree.perm {l m : List α} (h : Agree lt lt' l) (hp : m.Perm l) : Agree lt lt' m := fun x hx y hy => h x (hp.mem_iff.1 hx) y (hp.mem_iff.1 hy)
theorem getD_in {l : List α} {i : Nat} (h : i < l.length) : l.getD i d ∈ l := by
  rw [List.getD_eq_getElem?_getD, List.getElem?_eq_getElem h]; exact List.getElem_mem _
theorem down_agree : ∀ (k : Nat) (l : List α) (i n : Nat), n ≤ l.length → i < l.length → Agree lt lt' l → down d lt k l i n = down d lt' k l i n
  | 0, _, _, _, _, _, _ => rfl
  | k + 1, l, i, n, hn, hi, ha => by
    unfold down
    by_cases h1 : 2 * i + 1 ≥ n
    · rw [if_pos h1, if_pos h1]
    rw [if_neg h1, if_neg h1]
    dsimp only
    have e : (2 * i + 2 < n ∧ lt (l.getD (2 * i + 2) d) (l.getD (2 * i + 1) d) = true) ↔ (2 * i + 2 < n ∧ lt' (l.getD (2 * i + 2) d) (l.getD (2 * i + 1) d) = true) := by
      constructor
      · rintro ⟨a, b⟩; exact ⟨a, by rw [← ha _ (getD_in d (by omega)) _ (getD_in d (by omega))]; exact b⟩
      · rintro ⟨a, b⟩; exact ⟨a, by rw [ha _ (getD_in d (by omega)) _ (getD_in d (by omega))]; exact b⟩
    rw [show (if 2 * i + 2 < n ∧ lt (l.getD (2 * i + 2) d) (l.getD (2 * i + 1) d) = true then 2 * i + 2 else 2 * i + 1) = (if 2 * i + 2 < n ∧ lt' (l.getD (2 * i + 2) d) (l.getD (2 * i + 1) d) = true then 2 * i + 2 else 2 * i + 1) from by
      by_cases h : 2 * i + 2 < n ∧ lt' (l.getD (2 * i + 2) d) (l.getD (2 * i + 1) d) = true
      · rw [if_pos h, if_pos (e.2 h)]
      · rw [if_neg h, if_neg (fun h' => h (e.1 h'))]]
    generalize hc : (if 2 * i + 2 < n ∧ lt' (l.getD (2 * i + 2) d) (l.getD (2 * i + 1) d) = true then 2 * i + 2 else 2 * i + 1) = c
    have hcn : c < n := by subst hc; split <;> omega
    rw [ha _ (getD_in d (show c < l.length by omega)) _ (getD_in d hi)]
    split
    · exact down_agree k _ c n (by rw [swap_len]; exact hn) (by rw [swap_len]; omega) (ha.perm lt lt' (swap_perm d l _ _ hi (by omega)))
    · rfl
theorem up_agree : ∀ (k : Nat) (l : List α) (j : Nat), j < l.length → Agree lt lt' l → up d lt k l j = up d lt' k l j
  | 0, _, _, _, _ => rfl
  | k + 1, l, j, hj, ha => by
    unfold up
    split
    · rfl
    · rw [ha _ (getD_in d hj) _ (getD_in d (show (j - 1) / 2 < l.length by omega))]
      split
      · exact up_agree k _ _ (by rw [swap_len]; omega) (ha.perm lt lt' (swap_perm d l _ _ (by omega) hj))
      · rfl
theorem pop_agree (l : List α) (h : 0 < l.length) (ha : Agree lt lt' l) : pop d lt l = pop d lt' l := by
  unfold pop
  exact down_agree d lt lt' _ _ _ _ (by rw [swap_len]; omega) (by rw [swap_len]; omega) (ha.perm lt lt' (swap_perm d l _ _ h (by omega)))
theorem push_agree (l : List α) (x : α) (ha : Agree lt lt' (l ++ [x])) : push d lt l x = push d lt' l x := by
  unfold push
  exact up_agree d lt lt' _ _ _ (by simp) ha
end Hp
end Go.Proofs.Ytcffmmdgjifaaaa
