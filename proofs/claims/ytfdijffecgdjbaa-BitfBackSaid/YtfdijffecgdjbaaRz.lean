/- What was put is taken: bits of bytes of bits. -/
import Derived.Test.YtfdijffecgdjbaaHl
namespace Go.Proofs.Ytfdijffecgdjbaa
open Go.RowKit Go.Proofs.YtfdijffecgdjbaaW.PrintWords Go.Proofs.YtfdijffecgdjbaaW.PrintLast Go.Proofs.YtfdijffecgdjbaaW.PrintMore
set_option linter.unusedSimpArgs false
set_option linter.unusedVariables false
/-- the bits of the bytes of bits: those bits, and zeros -/
theorem bits_bytes (bs : List Bool) : (bitsOf (bytesOf' bs)).take bs.length = bs := by
  apply List.ext_getElem
  · rw [List.length_take, bitsOf_len, bytesOf'_len]; omega
  · intro i h1 h2
    have hi : i < 8 * (bytesOf' bs).length := by rw [bytesOf'_len]; omega
    have h := bitsOf_get (bytesOf' bs) i hi
    rw [List.getElem_take]
    rw [List.getElem?_eq_getElem (by rw [bitsOf_len]; exact hi)] at h
    rw [Option.some.inj h]
    unfold bitAt
    rw [bytesOf'_get _ _ (by omega), pow_pw]
    have e := numOf_div (i % 8) ((bs.drop (8 * (i / 8))).take 8)
    rw [pow_pw] at e
    rw [e, List.drop_take, List.drop_drop, show 8 * (i / 8) + i % 8 = i by omega]
    obtain ⟨k, hk⟩ : ∃ k, 8 - i % 8 = k + 1 := ⟨7 - i % 8, by omega⟩
    rw [hk, List.drop_eq_getElem_cons h2, List.take_succ_cons, numOf]
    cases bs[i] <;> simp <;> omega
theorem drop_bytes (bs : List Bool) (t : Nat) (c : List Bool) (h : ∃ r, bs.drop t = c ++ r) (ht : t ≤ bs.length) : ((bitsOf (bytesOf' bs)).drop t).take c.length = c := by
  obtain ⟨r, h⟩ := h
  have hl : t + c.length ≤ bs.length := by
    have := congrArg List.length h
    rw [List.length_drop, List.length_append] at this; omega
  have e : ((bitsOf (bytesOf' bs)).drop t).take c.length = (((bitsOf (bytesOf' bs)).take bs.length).drop t).take c.length := by
    rw [List.drop_take, List.take_take, Nat.min_eq_left (by omega)]
  rw [e, bits_bytes, h, List.take_left]
theorem pad_bytes (bs : List Bool) : padOk (bytesOf' bs) bs.length = true := by
  unfold padOk
  by_cases h : bs.length % 8 = 0
  · simp [h]
  · rw [Bool.or_eq_true, decide_eq_true_iff, decide_eq_true_iff]
    right
    rw [bytesOf'_get _ _ (by omega), pow_pw]
    have e := numOf_div (bs.length % 8) ((bs.drop (8 * (bs.length / 8))).take 8)
    rw [pow_pw] at e
    rw [e, List.drop_take, List.drop_drop, List.drop_eq_nil_of_le (by omega)]
    simp [numOf]
theorem bitsN_cons (v : Int) (j : Nat) : bitsN v (j + 1) = decide (v % 2 = 1) :: bitsN (v / 2) j := by
  unfold bitsN
  rw [List.range_succ_eq_map, List.map_cons, List.map_map]
  congr 1
  · simp
  · apply List.map_congr_left
    intro i _
    simp only [Function.comp]
    rw [Int.pow_succ, Int.mul_comm, ← Int.ediv_ediv_of_nonneg (by omega)]
/-- a number's bits are the number -/
theorem numOf_bitsN : ∀ (n : Nat) (v : Int), 0 ≤ v → v < pw n → numOf (bitsN v n) = v
  | 0, v, h0, h1 => by rw [pw_0] at h1; rw [show v = 0 by omega]; rfl
  | n + 1, v, h0, h1 => by
    rw [pw_succ] at h1
    rw [bitsN_cons, numOf, numOf_bitsN n (v / 2) (by omega) (by omega)]
    by_cases h : v % 2 = 1
    · rw [decide_eq_true h]; simp; omega
    · rw [decide_eq_false h]; simp; omega
theorem numAt_put (bs : List Bool) (t : Nat) (v : Int) (n : Nat) (r : List Bool) (ht : t ≤ bs.length) (h0 : 0 ≤ v) (h1 : v < pw n) (hd : bs.drop t = bitsN v n ++ r) : numAt (bytesOf' bs) t n = v ∧ t + n ≤ bs.length := by
  have h := drop_bytes bs t (bitsN v n) ⟨r, hd⟩ ht
  rw [bitsN_len] at h
  refine ⟨by unfold numAt; rw [h]; exact numOf_bitsN n v h0 h1, ?_⟩
  have := congrArg List.length hd
  rw [List.length_drop, List.length_append, bitsN_len] at this; omega
end Go.Proofs.Ytfdijffecgdjbaa
