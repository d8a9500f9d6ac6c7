/- Plain: which bytes stand in a context, and which contexts there are. -/
import Derived.Test.YthkpjjkjdklpmaaHs
namespace Go.Proofs.Ythkpjjkjdklpmaa
set_option linter.unusedSimpArgs false
/-- a byte's context -/
def ctxAt (l : List Int) (i : Nat) : Int := if i = 0 then 0 else l.getD (i - 1) 0
/-- of the first i bytes, those whose context is c -/
def pickTo (l : List Int) (c : Int) : Nat → List Int
  | 0 => []
  | i + 1 => pickTo l c i ++ (if ctxAt l i = c then [l.getD i 0] else [])
theorem pickTo_len (l : List Int) (c : Int) : ∀ i, (pickTo l c i).length ≤ i
  | 0 => by simp [pickTo]
  | i + 1 => by
    have := pickTo_len l c i
    rw [pickTo, List.length_append]
    split <;> simp <;> omega
theorem pickTo_hit (l : List Int) (c : Int) (i : Nat) (h : ctxAt l i = c) : pickTo l c (i + 1) = pickTo l c i ++ [l.getD i 0] := by rw [pickTo, if_pos h]
theorem pickTo_miss (l : List Int) (c : Int) (i : Nat) (h : ¬ ctxAt l i = c) : pickTo l c (i + 1) = pickTo l c i := by rw [pickTo, if_neg h, List.append_nil]
theorem pickTo_ok {l : List Int} (h : BytesOk l) (c : Int) : ∀ i, i ≤ l.length → BytesOk (pickTo l c i)
  | 0, _ => by intro x hx; simp [pickTo] at hx
  | i + 1, hi => by
    rw [pickTo]
    refine BytesOk.append (pickTo_ok h c i (by omega)) ?_
    split
    · intro x hx
      rw [List.mem_singleton.1 hx]
      exact h.at i (by omega)
    · intro x hx; simp at hx
theorem ctxAt_ok {l : List Int} (h : BytesOk l) (i : Nat) (hi : i < l.length) : 0 ≤ ctxAt l i ∧ ctxAt l i ≤ 255 := by
  unfold ctxAt
  split
  · omega
  · exact h.at (i - 1) (by omega)
/-- of the first i bytes: which contexts there are -/
def metTo (l : List Int) : Nat → List Bool
  | 0 => List.replicate 256 false
  | i + 1 => (metTo l i).set (ctxAt l i).toNat true
theorem metTo_len (l : List Int) : ∀ i, (metTo l i).length = 256
  | 0 => List.length_replicate
  | i + 1 => by rw [metTo, List.length_set, metTo_len l i]
theorem metTo_get {l : List Int} (h : BytesOk l) : ∀ i, i ≤ l.length → ∀ c, c < 256 → (metTo l i).getD c false = (List.range i).any fun j => decide (ctxAt l j = (c : Int))
  | 0, _, c, hc => by
    rw [metTo, List.getD_eq_getElem?_getD, List.getElem?_replicate, List.range_zero, List.any_nil]
    split <;> rfl
  | i + 1, hi, c, hc => by
    have hb := ctxAt_ok h i (by omega)
    rw [metTo, List.range_succ, List.any_append, ← metTo_get h i (by omega) c hc]
    simp only [List.getD_eq_getElem?_getD, List.getElem?_set, metTo_len]
    by_cases e : (ctxAt l i).toNat = c
    · have e2 : ctxAt l i = (c : Int) := by omega
      rw [if_pos e, if_pos (by omega)]; simp [e2]
    · have e2 : ¬ ctxAt l i = (c : Int) := by omega
      rw [if_neg e]; simp [e2]
/-- the contexts below k -/
def presTo (m : List Bool) : Nat → List Int
  | 0 => []
  | k + 1 => presTo m k ++ (if m.getD k false = true then [(k : Int)] else [])
theorem presTo_len (m : List Bool) : ∀ k, (presTo m k).length ≤ k
  | 0 => by simp [presTo]
  | k + 1 => by
    have := presTo_len m k
    rw [presTo, List.length_append]
    split <;> simp <;> omega
theorem presTo_hit (m : List Bool) (k : Nat) (h : m.getD k false = true) : presTo m (k + 1) = presTo m k ++ [(k : Int)] := by rw [presTo, if_pos h]
theorem presTo_miss (m : List Bool) (k : Nat) (h : m.getD k false = false) : presTo m (k + 1) = presTo m k := by rw [presTo, h]; simp
/-- what the walks ask of bytes -/
def okBytes (l : List Int) : Bool := decide (l.length ≤ 1099511627776) && l.all fun x => decide (0 ≤ x) && decide (x ≤ 255)
theorem okBytes_iff (l : List Int) : okBytes l = true ↔ l.length ≤ 1099511627776 ∧ BytesOk l := by
  unfold okBytes BytesOk
  rw [Bool.and_eq_true, decide_eq_true_iff, List.all_eq_true]
  simp
end Go.Proofs.Ythkpjjkjdklpmaa
