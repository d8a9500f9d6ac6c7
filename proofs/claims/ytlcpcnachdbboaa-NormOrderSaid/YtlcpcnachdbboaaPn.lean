/- The normalizing of counts, plainly: what is given, to whom, what is taken, and from whom; the heaps do just that. -/
import Derived.Test.YtlcpcnachdbboaaTk
import Derived.Test.YtlcpcnachdbboaaHq
import Derived.Test.YtlcpcnachdbboaaHs
import Derived.Test.YtlcpcnachdbboaaEv
namespace Go.Proofs.Ytlcpcnachdbboaa
open Go.RowKit Go.Proofs.YtlcpcnachdbboaaW.PrintWords PPr HC
set_option linter.unusedSimpArgs false
set_option linter.unusedVariables false
abbrev SC := S40
abbrev zC : SC := z40
namespace Hp
variable {α : Type} (d : α) (lt : α → α → Bool)
theorem pop_set (O : Ord lt) (l : List α) (h : Heap d lt l) (hn : l.Nodup) (hp : 0 < l.length) :
    ∃ x, (pop d lt l).getD (l.length - 1) d = x ∧ x ∈ l ∧ (∀ y, y ∈ l → lt y x = false) ∧ Heap d lt ((pop d lt l).take (l.length - 1)) ∧ ((pop d lt l).take (l.length - 1)).Nodup ∧ ∀ y, y ∈ (pop d lt l).take (l.length - 1) ↔ y ∈ l ∧ y ≠ x := by
  obtain ⟨h1, h2, h3⟩ := pop_heap d lt O l h hp
  have hn2 := h3.nodup_iff.2 hn
  rw [List.nodup_append] at hn2
  refine ⟨_, rfl, h3.mem_iff.1 (by simp), h1, h2, hn2.1, fun y => ?_⟩
  rw [← h3.mem_iff, List.mem_append, List.mem_singleton]
  constructor
  · intro hy; exact ⟨.inl hy, hn2.2.2 y hy _ (by simp)⟩
  · rintro ⟨hy | hy, hne⟩
    · exact hy
    · exact absurd hy hne
theorem push_set (O : Ord lt) (l : List α) (x : α) (h : Heap d lt l) (hn : l.Nodup) (hx : x ∉ l) :
    Heap d lt (push d lt l x) ∧ (push d lt l x).Nodup ∧ ∀ y, y ∈ push d lt l x ↔ y ∈ l ∨ y = x := by
  obtain ⟨h1, h2⟩ := push_heap d lt O l x h
  refine ⟨h1, h2.nodup_iff.2 ?_, fun y => by rw [h2.mem_iff]; simp⟩
  rw [List.nodup_append]
  exact ⟨hn, by simp, fun a ha b hb e => hx (by simp at hb; rw [← hb, ← e]; exact ha)⟩
theorem init_set (O : Ord lt) (l : List α) (hn : l.Nodup) : Heap d lt (init d lt l) ∧ (init d lt l).Nodup ∧ ∀ y, y ∈ init d lt l ↔ y ∈ l := by
  obtain ⟨h1, h2⟩ := init_heap d lt O l
  exact ⟨h1, h2.nodup_iff.2 hn, fun y => h2.mem_iff⟩
end Hp
theorem ltC_iff (x y : SC) : ltC x y = true ↔ (x.f1 > y.f1 ∨ (x.f1 = y.f1 ∧ (x.f2 > y.f2 ∨ (x.f2 = y.f2 ∧ x.f0 < y.f0)))) := by
  unfold ltC
  split
  · split
    · rw [decide_eq_true_iff]; omega
    · rw [decide_eq_true_iff]; omega
  · rw [decide_eq_true_iff]; omega
theorem ltC_no (x y : SC) : ltC x y = false ↔ ¬ (x.f1 > y.f1 ∨ (x.f1 = y.f1 ∧ (x.f2 > y.f2 ∨ (x.f2 = y.f2 ∧ x.f0 < y.f0)))) := by
  rw [← ltC_iff]; simp
theorem ltC_ord : Hp.Ord ltC := ⟨by intro x y z h1 h2; rw [ltC_no] at *; omega, by intro x y h; rw [ltC_iff] at h; rw [ltC_no]; omega, by intro x; rw [ltC_no]; omega⟩
theorem getD_setB (l : List Bool) (i j : Nat) (x : Bool) (h : i < l.length) : (l.set i x).getD j false = if i = j then x else l.getD j false := by
  simp only [List.getD_eq_getElem?_getD, List.getElem?_set]
  split
  · rename_i e; subst e; simp [h]
  · rfl
/-- who is given to next: the greatest rest, the first symbol -/
def NeedTo (rest : List Int) (had : List Bool) (i s : Nat) : Prop := s < i ∧ had.getD s false = false ∧ ∀ t, t < i → had.getD t false = false → rest.getD t 0 < rest.getD s 0 ∨ (rest.getD t 0 = rest.getD s 0 ∧ s ≤ t)
abbrev Need (rest : List Int) (had : List Bool) (s : Nat) : Prop := NeedTo rest had 256 s
theorem need_one {rest : List Int} {had : List Bool} {i s s' : Nat} (h : NeedTo rest had i s) (h' : NeedTo rest had i s') : s = s' := by
  have h1 := h.2.2 s' h'.1 h'.2.1
  have h2 := h'.2.2 s h.1 h.2.1
  omega
inductive Gives (rest : List Int) : Nat → List Int → List Bool → List Int → Prop
  | zero (q : List Int) (had : List Bool) : Gives rest 0 q had q
  | succ {n : Nat} {q : List Int} {had : List Bool} {s : Nat} {q' : List Int} : Need rest had s → Gives rest n (q.set s (q.getD s 0 + 1)) (had.set s true) q' → Gives rest (n + 1) q had q'
/-- a claim -/
def mkG (rest : List Int) (s : Nat) : SC := ⟨(s : Int), rest.getD s 0, 0⟩
structure GInv (rest : List Int) (had : List Bool) (l : List SC) : Prop where
  heap : Hp.Heap zC ltC l
  nd : l.Nodup
  mem : ∀ x, x ∈ l ↔ ∃ s, s < 256 ∧ had.getD s false = false ∧ x = mkG rest s
theorem giveTo_of (rest : List Int) : ∀ (n : Nat) (q : List Int) (had : List Bool) (q' : List Int) (l : List SC), q.length = 256 → had.length = 256 → (∀ s, s < 256 → 0 ≤ q.getD s 0 ∧ q.getD s 0 + n ≤ 4611686018427387904) → GInv rest had l → Gives rest n q had q' → giveTo n q l = some q'
  | 0, q, had, q', l, _, _, _, _, hG => by cases hG; rfl
  | n + 1, q, had, q', l, hq, hh, hb, I, hG => by
    cases hG with
    | succ hN hG =>
      rename_i s
      have hin : mkG rest s ∈ l := (I.mem _).2 ⟨s, hN.1, hN.2.1, rfl⟩
      have hpos : 0 < l.length := List.length_pos_of_mem hin
      obtain ⟨x, hx, hxl, hxm, hH, hND, hM⟩ := Hp.pop_set zC ltC ltC_ord l I.heap I.nd hpos
      obtain ⟨s', h1, h2, rfl⟩ := (I.mem x).1 hxl
      have hs : s' = s := by
        have h3 := (ltC_no _ _).1 (hxm _ hin)
        have h4 := hN.2.2 s' h1 h2
        have h5 : ¬ (rest.getD s 0 > rest.getD s' 0 ∨ (rest.getD s 0 = rest.getD s' 0 ∧ (s : Int) < (s' : Int))) := fun h => h3 (h.imp id (fun h => ⟨h.1, .inr ⟨rfl, h.2⟩⟩))
        omega
      subst hs
      have hbs := hb s' h1
      rw [giveTo, if_neg (by omega), hx]
      rw [if_pos ⟨by simp only [mkG]; omega, by simp only [mkG]; omega⟩]
      have e1 : (mkG rest s').f0.toNat = s' := rfl
      have e2 : rd q (mkG rest s').f0 = q.getD s' 0 := rfl
      rw [e1, e2, w64' (y := q.getD s' 0 + 1) rfl (by omega) (by omega)]
      refine giveTo_of rest n _ (had.set s' true) q' _ (by simpa using hq) (by simpa using hh) (fun t ht => ?_) ⟨hH, hND, fun y => ?_⟩ hG
      · rw [getD_set _ _ _ _ (by omega)]
        have := hb t ht
        split <;> omega
      · rw [hM, I.mem]
        constructor
        · rintro ⟨⟨t, t1, t2, rfl⟩, hne⟩
          refine ⟨t, t1, ?_, rfl⟩
          rw [getD_setB _ _ _ _ (by omega), if_neg (fun e => hne (by rw [e]))]
          exact t2
        · rintro ⟨t, t1, t2, rfl⟩
          rw [getD_setB _ _ _ _ (by omega)] at t2
          by_cases e : s' = t
          · rw [if_pos e] at t2; cases t2
          · rw [if_neg e] at t2
            exact ⟨⟨t, t1, t2, rfl⟩, fun h => e (by have := congrArg S40.f0 h; simp only [mkG] at this; omega)⟩
/-- who is taken from next -/
def RichTo (q c : List Int) (i s : Nat) : Prop := s < i ∧ ∀ t, t < i → q.getD t 0 < q.getD s 0 ∨ (q.getD t 0 = q.getD s 0 ∧ (c.getD s 0 < c.getD t 0 ∨ (c.getD s 0 = c.getD t 0 ∧ t ≤ s)))
abbrev Rich (q c : List Int) (s : Nat) : Prop := RichTo q c 256 s
theorem rich_one {q c : List Int} {i s s' : Nat} (h : RichTo q c i s) (h' : RichTo q c i s') : s = s' := by
  have h1 := h.2 s' h'.1
  have h2 := h'.2 s h.1
  omega
inductive Takes (c : List Int) : Nat → List Int → List Int → Prop
  | zero (q : List Int) : Takes c 0 q q
  | succ {n : Nat} {q : List Int} {s : Nat} {q' : List Int} : Rich q c s → 2 ≤ q.getD s 0 → Takes c n (q.set s (q.getD s 0 - 1)) q' → Takes c (n + 1) q q'
structure TInv (q c : List Int) (l : List SC) : Prop where
  heap : Hp.Heap zC ltC l
  nd : l.Nodup
  mem : ∀ x, x ∈ l ↔ ∃ s, s < 256 ∧ 0 < q.getD s 0 ∧ x = mkC q c s
theorem takeTo_of (c : List Int) : ∀ (n : Nat) (q q' : List Int) (l : List SC), q.length = 256 → (∀ s, s < 256 → 0 ≤ q.getD s 0 ∧ q.getD s 0 ≤ 4611686018427387904) → TInv q c l → Takes c n q q' → takeTo n q l = some q'
  | 0, q, q', l, _, _, _, hG => by cases hG; rfl
  | n + 1, q, q', l, hq, hb, I, hG => by
    cases hG with
    | succ hN h2 hG =>
      rename_i s
      have hin : mkC q c s ∈ l := (I.mem _).2 ⟨s, hN.1, by omega, rfl⟩
      have hpos : 0 < l.length := List.length_pos_of_mem hin
      obtain ⟨x, hx, hxl, hxm, hH, hND, hM⟩ := Hp.pop_set zC ltC ltC_ord l I.heap I.nd hpos
      obtain ⟨s', h1, h2', rfl⟩ := (I.mem x).1 hxl
      have hs : s' = s := by
        have h3 := (ltC_no _ _).1 (hxm _ hin)
        have h4 := hN.2 s' h1
        have h5 := hN.1
        simp only [mkC] at h3
        omega
      subst hs
      have hbs := hb s' h1
      rw [takeTo, if_neg (by omega), hx]
      rw [if_pos ⟨by simp only [mkC]; omega, by simp only [mkC]; omega⟩]
      have e1 : (mkC q c s').f0.toNat = s' := rfl
      have e2 : rd q (mkC q c s').f0 = q.getD s' 0 := rfl
      have e3 : (mkC q c s').f1 = q.getD s' 0 := rfl
      rw [e1, e2, e3, w64' (y := q.getD s' 0 - 1) rfl (by omega) (by omega)]
      have e4 : (⟨(mkC q c s').f0, q.getD s' 0 - 1, (mkC q c s').f2⟩ : SC) = mkC (q.set s' (q.getD s' 0 - 1)) c s' := by
        unfold mkC; rw [getD_set _ _ _ _ (by omega), if_pos rfl]
      rw [e4]
      have hoth : ∀ t, t ≠ s' → mkC (q.set s' (q.getD s' 0 - 1)) c t = mkC q c t := by
        intro t ht
        unfold mkC; rw [getD_set _ _ _ _ (by omega), if_neg (fun e => ht e.symm)]
      have hne : ∀ t u, t ≠ u → ∀ q q' : List Int, mkC q c t ≠ mkC q' c u := by
        intro t u ht q q' h
        have := congrArg S40.f0 h; simp only [mkC] at this; omega
      have hnot : mkC (q.set s' (q.getD s' 0 - 1)) c s' ∉ (Hp.pop zC ltC l).take (l.length - 1) := by
        intro hc
        obtain ⟨h5, h6⟩ := (hM _).1 hc
        obtain ⟨t, t1, t2, t3⟩ := (I.mem _).1 h5
        by_cases e : s' = t
        · subst e; exact h6 t3
        · exact hne _ _ e _ _ t3
      obtain ⟨p1, p2, p3⟩ := Hp.push_set zC ltC ltC_ord _ _ hH hND hnot
      refine takeTo_of c n _ q' _ (by simpa using hq) (fun t ht => ?_) ⟨p1, p2, fun y => ?_⟩ hG
      · rw [getD_set _ _ _ _ (by omega)]
        have := hb t ht
        split <;> omega
      · rw [p3, hM, I.mem]
        constructor
        · rintro (⟨⟨t, t1, t2, rfl⟩, hne⟩ | rfl)
          · have e : t ≠ s' := fun e => hne (by rw [e])
            refine ⟨t, t1, ?_, (hoth t e).symm⟩
            rw [getD_set _ _ _ _ (by omega), if_neg (fun h => e h.symm)]
            exact t2
          · exact ⟨s', h1, by rw [getD_set _ _ _ _ (by omega), if_pos rfl]; omega, rfl⟩
        · rintro ⟨t, t1, t2, rfl⟩
          by_cases e : t = s'
          · subst e; exact .inr rfl
          · rw [getD_set _ _ _ _ (by omega), if_neg (fun h => e h.symm)] at t2
            rw [hoth t e]
            exact .inl ⟨⟨t, t1, t2, rfl⟩, hne _ _ e _ _⟩
theorem claimsTo_mem (q c : List Int) : ∀ i y, y ∈ claimsTo q c i ↔ ∃ s, s < i ∧ 0 < q.getD s 0 ∧ y = mkC q c s
  | 0, y => by simp [claimsTo]
  | i + 1, y => by
    rw [claimsTo, List.mem_append, claimsTo_mem q c i]
    constructor
    · rintro (⟨s, h1, h2, h3⟩ | h)
      · exact ⟨s, by omega, h2, h3⟩
      · split at h
        · rename_i hp; exact ⟨i, by omega, hp, by simpa using h⟩
        · simp at h
    · rintro ⟨s, h1, h2, h3⟩
      by_cases e : s = i
      · subst e; right; rw [if_pos h2]; simpa using h3
      · exact .inl ⟨s, by omega, h2, h3⟩
theorem claimsTo_nodup (q c : List Int) : ∀ i, (claimsTo q c i).Nodup
  | 0 => by simp [claimsTo]
  | i + 1 => by
    rw [claimsTo, List.nodup_append]
    refine ⟨claimsTo_nodup q c i, by split <;> simp, ?_⟩
    intro a ha b hb e
    obtain ⟨s, h1, h2, h3⟩ := (claimsTo_mem q c i a).1 ha
    split at hb
    · simp at hb
      subst hb; subst e
      have := congrArg S40.f0 h3; simp only [mkC] at this; omega
    · simp at hb
/-- the claims of those that have something -/
def clTo (rest : List Int) (had : List Bool) : Nat → List SC
  | 0 => []
  | i + 1 => clTo rest had i ++ (if had.getD i false = false then [mkG rest i] else [])
theorem clTo_mem (rest : List Int) (had : List Bool) : ∀ i y, y ∈ clTo rest had i ↔ ∃ s, s < i ∧ had.getD s false = false ∧ y = mkG rest s
  | 0, y => by simp [clTo]
  | i + 1, y => by
    rw [clTo, List.mem_append, clTo_mem rest had i]
    constructor
    · rintro (⟨s, h1, h2, h3⟩ | h)
      · exact ⟨s, by omega, h2, h3⟩
      · split at h
        · rename_i hp; exact ⟨i, by omega, hp, by simpa using h⟩
        · simp at h
    · rintro ⟨s, h1, h2, h3⟩
      by_cases e : s = i
      · subst e; right; rw [if_pos h2]; simpa using h3
      · exact .inl ⟨s, by omega, h2, h3⟩
theorem clTo_nodup (rest : List Int) (had : List Bool) : ∀ i, (clTo rest had i).Nodup
  | 0 => by simp [clTo]
  | i + 1 => by
    rw [clTo, List.nodup_append]
    refine ⟨clTo_nodup rest had i, by split <;> simp, ?_⟩
    intro a ha b hb e
    obtain ⟨s, h1, h2, h3⟩ := (clTo_mem rest had i a).1 ha
    split at hb
    · simp at hb
      subst hb; subst e
      have := congrArg S40.f0 h3; simp only [mkG] at this; omega
    · simp at hb
theorem clTo_len (rest : List Int) (had : List Bool) : ∀ i, (clTo rest had i).length ≤ i
  | 0 => by simp [clTo]
  | i + 1 => by
    have := clTo_len rest had i
    rw [clTo, List.length_append]
    split <;> simp <;> omega
theorem giveF_of (rest q : List Int) (had : List Bool) (q' : List Int) (n : Nat) (hq : q.length = 256) (hh : had.length = 256) (hn : n ≤ 4611686018427387904) (hb : ∀ s, s < 256 → 0 ≤ q.getD s 0 ∧ q.getD s 0 + n ≤ 4611686018427387904) (hG : Gives rest n q had q') : giveF q (clTo rest had 256) (n : Int) = some q' := by
  have hl := clTo_len rest had 256
  unfold giveF
  rw [if_pos ⟨⟨by omega, by omega⟩, by omega⟩, Int.toNat_natCast]
  obtain ⟨h1, h2, h3⟩ := Hp.init_set zC ltC ltC_ord _ (clTo_nodup rest had 256)
  exact giveTo_of rest n q had q' _ hq hh hb ⟨h1, h2, fun x => by rw [h3, clTo_mem]⟩ hG
theorem takeF_of (c q q' : List Int) (n : Nat) (hq : q.length = 256) (hc : c.length = 256) (hcb : ∀ x, x ∈ c → 0 ≤ x ∧ x ≤ 1073741824) (hn : n ≤ 4611686018427387904) (hb : ∀ s, s < 256 → 0 ≤ q.getD s 0 ∧ q.getD s 0 ≤ 4611686018427387904) (hG : Takes c n q q') : takeF q c (n : Int) = some q' := by
  unfold takeF
  rw [if_pos ((takeOk_iff _ _ _).2 ⟨by omega, by omega, by omega, by omega, hcb⟩), Int.toNat_natCast]
  obtain ⟨h1, h2, h3⟩ := Hp.init_set zC ltC ltC_ord _ (claimsTo_nodup q c q.length)
  exact takeTo_of c n q q' _ hq hb ⟨h1, h2, fun x => by rw [h3, claimsTo_mem, hq]⟩ hG
end Go.Proofs.Ytlcpcnachdbboaa
