/- What was put is taken: bits of bytes of bits, and the runs in them. -/
import Derived.Test.YtokhhnmnhjbnbaaRp
namespace Go.Proofs.Ytokhhnmnhjbnbaa
open Go.RowKit Go.Proofs.YtokhhnmnhjbnbaaW.PrintWords Go.Proofs.YtokhhnmnhjbnbaaW.PrintLast Go.Proofs.YtokhhnmnhjbnbaaW.PrintMore
set_option linter.unusedSimpArgs false
set_option linter.unusedVariables false
/-- the bits of the bytes of bits: those bits, and zeros -/
theorem bits_bytes (bs : List Bool) : (bitsOf (bytesOf' bs)).take bs.length = bs := by
  apply List.ext_getElem
  · rw [List.length_take, bitsOf_len, bytesOf'_len]; omega
  · intro i h1 h2
    have hi : i < 8 * (bytesOf' bs).length := by rw [bytesOf'_len]; omega
    have h := bitsOf_get (bytesOf' bs) i hi
    rw [List.getElem_take]
    rw [List.getElem?_eq_getElem (by rw [bitsOf_len]; exact hi)] at h
    rw [Option.some.inj h]
    unfold bitAt
    rw [bytesOf'_get _ _ (by omega), pow_pw]
    have e := numOf_div (i % 8) ((bs.drop (8 * (i / 8))).take 8)
    rw [pow_pw] at e
    rw [e, List.drop_take, List.drop_drop, show 8 * (i / 8) + i % 8 = i by omega]
    obtain ⟨k, hk⟩ : ∃ k, 8 - i % 8 = k + 1 := ⟨7 - i % 8, by omega⟩
    rw [hk, List.drop_eq_getElem_cons h2, List.take_succ_cons, numOf]
    cases bs[i] <;> simp <;> omega
theorem drop_bytes (bs : List Bool) (t : Nat) (c : List Bool) (h : ∃ r, bs.drop t = c ++ r) (ht : t ≤ bs.length) : ((bitsOf (bytesOf' bs)).drop t).take c.length = c := by
  obtain ⟨r, h⟩ := h
  have hl : t + c.length ≤ bs.length := by
    have := congrArg List.length h
    rw [List.length_drop, List.length_append] at this; omega
  have e : ((bitsOf (bytesOf' bs)).drop t).take c.length = (((bitsOf (bytesOf' bs)).take bs.length).drop t).take c.length := by
    rw [List.drop_take, List.take_take, Nat.min_eq_left (by omega)]
  rw [e, bits_bytes, h, List.take_left]
theorem pad_bytes (bs : List Bool) : padOk (bytesOf' bs) bs.length = true := by
  unfold padOk
  by_cases h : bs.length % 8 = 0
  · simp [h]
  · rw [Bool.or_eq_true, decide_eq_true_iff, decide_eq_true_iff]
    right
    rw [bytesOf'_get _ _ (by omega), pow_pw]
    have e := numOf_div (bs.length % 8) ((bs.drop (8 * (bs.length / 8))).take 8)
    rw [pow_pw] at e
    rw [e, List.drop_take, List.drop_drop, List.drop_eq_nil_of_le (by omega)]
    simp [numOf]
/-- what was put is taken -/
theorem tkR_put (bs : List Bool) (most : Int) : ∀ (m : Nat) (n : Int) (t : Nat) (r : List Bool), t ≤ bs.length → bs.drop t = runBits m ++ r → n + m ≤ most → tkR (bytesOf' bs) most n t = (n + m, 0, t + (runBits m).length) := by
  intro m
  induction m using Nat.strongRecOn with
  | _ m ih =>
  intro n t r ht hd hm
  have hlen := congrArg List.length hd
  rw [List.length_drop, List.length_append] at hlen
  have hL := runBits_len m
  have hB : t + 2 ≤ 8 * (bytesOf' bs).length := by rw [bytesOf'_len]; omega
  rw [tkR, dif_pos hB]
  rcases Nat.lt_or_ge m 3 with h3 | h3
  · have e2 : (runBits m).length = 2 := by omega
    have hN : numAt (bytesOf' bs) t 2 = (m : Int) := by
      unfold numAt
      have := drop_bytes bs t (runBits m) ⟨r, hd⟩ ht
      rw [e2] at this
      rw [this]
      have : m = 0 ∨ m = 1 ∨ m = 2 := by omega
      rcases this with rfl | rfl | rfl <;> decide
    rw [hN, if_neg (by omega), if_pos (by omega), e2]
  · obtain ⟨k, rfl⟩ : ∃ k, m = k + 3 := ⟨m - 3, by omega⟩
    have hd2 : bs.drop t = [true, true] ++ (runBits k ++ r) := by rw [hd]; simp [runBits]
    have hN : numAt (bytesOf' bs) t 2 = 3 := by
      unfold numAt
      have := drop_bytes bs t [true, true] ⟨_, hd2⟩ ht
      rw [show [true, true].length = 2 from rfl] at this
      rw [this]
      decide
    have hd3 : bs.drop (t + 2) = runBits k ++ r := by
      rw [← List.drop_drop, hd2]; rfl
    have hLk := runBits_len k
    rw [hN, if_neg (by omega), if_neg (by decide), ih k (by omega) (n + 3) (t + 2) r (by omega) hd3 (by omega)]
    simp only [Prod.mk.injEq]
    refine ⟨by omega, trivial, by omega⟩
theorem tkR_over (bs : List Bool) (most : Int) : ∀ (m : Nat) (n : Int) (t : Nat) (r : List Bool), t ≤ bs.length → bs.drop t = runBits m ++ r → n ≤ most → most < n + m → ∃ t', tkR (bytesOf' bs) most n t = (0, 13, t') := by
  intro m
  induction m using Nat.strongRecOn with
  | _ m ih =>
  intro n t r ht hd hn hm
  have hlen := congrArg List.length hd
  rw [List.length_drop, List.length_append] at hlen
  have hL := runBits_len m
  have hB : t + 2 ≤ 8 * (bytesOf' bs).length := by rw [bytesOf'_len]; omega
  rw [tkR, dif_pos hB]
  rcases Nat.lt_or_ge m 3 with h3 | h3
  · have e2 : (runBits m).length = 2 := by omega
    have hN : numAt (bytesOf' bs) t 2 = (m : Int) := by
      unfold numAt
      have := drop_bytes bs t (runBits m) ⟨r, hd⟩ ht
      rw [e2] at this
      rw [this]
      have : m = 0 ∨ m = 1 ∨ m = 2 := by omega
      rcases this with rfl | rfl | rfl <;> decide
    rw [hN, if_pos (by omega)]
    exact ⟨_, rfl⟩
  · obtain ⟨k, rfl⟩ : ∃ k, m = k + 3 := ⟨m - 3, by omega⟩
    have hd2 : bs.drop t = [true, true] ++ (runBits k ++ r) := by rw [hd]; simp [runBits]
    have hN : numAt (bytesOf' bs) t 2 = 3 := by
      unfold numAt
      have := drop_bytes bs t [true, true] ⟨_, hd2⟩ ht
      rw [show [true, true].length = 2 from rfl] at this
      rw [this]
      decide
    have hd3 : bs.drop (t + 2) = runBits k ++ r := by
      rw [← List.drop_drop, hd2]; rfl
    have hLk := runBits_len k
    rw [hN]
    by_cases h1 : most < n + 3
    · rw [if_pos h1]; exact ⟨_, rfl⟩
    · rw [if_neg h1, if_neg (by decide)]
      exact ih k (by omega) (n + 3) (t + 2) r (by omega) hd3 (by omega) (by omega)
/-- the bits of many numbers -/
def rb (xs : List Int) : List Bool := xs.flatMap fun x => runBits x.toNat
theorem rb_take (m : List Int) (i : Nat) (h : i < m.length) : rb (m.take (i + 1)) = rb (m.take i) ++ runBits (m.getD i 0).toNat := by
  unfold rb
  rw [List.take_succ_eq_append_getElem h, List.getD_eq_getElem?_getD, List.getElem?_eq_getElem h, List.flatMap_append]
  simp only [Option.getD_some, List.flatMap_cons, List.flatMap_nil, List.append_nil]
theorem rb_drop (m : List Int) (i : Nat) (h : i < m.length) : (rb m).drop (rb (m.take i)).length = runBits (m.getD i 0).toNat ++ rb (m.drop (i + 1)) := by
  have e : rb m = rb (m.take i) ++ (runBits (m.getD i 0).toNat ++ rb (m.drop (i + 1))) := by
    rw [← List.append_assoc, ← rb_take m i h]
    unfold rb
    rw [← List.flatMap_append, List.take_append_drop]
  rw [e, List.drop_left]
theorem rb_len (m : List Int) (hm : ∀ x, x ∈ m → 0 ≤ x ∧ x ≤ 255) : ∀ i, i ≤ m.length → (rb (m.take i)).length ≤ 172 * i
  | 0, _ => by simp [rb]
  | i + 1, h => by
    rw [rb_take m i h, List.length_append, runBits_len]
    have := rb_len m hm i (by omega)
    have hx := hm _ (List.getElem_mem (show i < m.length from h))
    rw [List.getD_eq_getElem?_getD, List.getElem?_eq_getElem h]
    simp only [Option.getD_some]
    omega
theorem rb_le (m : List Int) (i : Nat) (h : i ≤ m.length) : (rb (m.take i)).length ≤ (rb m).length := by
  have e : rb m = rb (m.take i) ++ rb (m.drop i) := by
    unfold rb; rw [← List.flatMap_append, List.take_append_drop]
  rw [e, List.length_append]; omega
end Go.Proofs.Ytokhhnmnhjbnbaa
