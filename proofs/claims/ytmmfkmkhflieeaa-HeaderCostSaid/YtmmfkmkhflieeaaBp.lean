/- Plain bits: bytes' bits, bits as a number, the bytes of bits. -/
import Derived.Lib.BitFns
namespace Go.Proofs.Ytmmfkmkhflieeaa
set_option linter.unusedSimpArgs false
/-- a byte's bit -/
def bitAt (bs : List Int) (i : Nat) : Int := bs.getD (i / 8) 0 / 2 ^ (i % 8) % 2
theorem bitAt_bd (bs : List Int) (i : Nat) : 0 ≤ bitAt bs i ∧ bitAt bs i ≤ 1 := by unfold bitAt; omega
/-- bytes' bits -/
def bitsOf (bs : List Int) : List Bool := (List.range (8 * bs.length)).map fun i => decide (bitAt bs i = 1)
theorem bitsOf_len (bs : List Int) : (bitsOf bs).length = 8 * bs.length := by simp [bitsOf]
theorem bitsOf_get (bs : List Int) (i : Nat) (h : i < 8 * bs.length) : (bitsOf bs)[i]? = some (decide (bitAt bs i = 1)) := by
  simp [bitsOf, List.getElem?_map, List.getElem?_range h]
theorem bitsOf_getD (bs : List Int) (i : Nat) (h : i < 8 * bs.length) : (bitsOf bs).getD i false = decide (bitAt bs i = 1) := by
  rw [List.getD_eq_getElem?_getD, bitsOf_get bs i h]; rfl
/-- bits as a number, the first one the lowest -/
def numOf : List Bool → Int
  | [] => 0
  | b :: l => (if b then 1 else 0) + 2 * numOf l
def pw (n : Nat) : Int := ((2 ^ n : Nat) : Int)
theorem pw_0 : pw 0 = 1 := rfl
theorem pw_succ (n : Nat) : pw (n + 1) = 2 * pw n := by unfold pw; rw [Nat.pow_succ]; omega
theorem pw_pos (n : Nat) : 1 ≤ pw n := by have := Nat.two_pow_pos n; unfold pw; omega
theorem pw_mono {a b : Nat} (h : a ≤ b) : pw a ≤ pw b := by
  have := Nat.pow_le_pow_right (n := 2) (by omega) h
  unfold pw; omega
theorem pw_add (a b : Nat) : pw (a + b) = pw a * pw b := by unfold pw; rw [Nat.pow_add]; simp
theorem pow_pw (k : Nat) : (2 : Int) ^ k = pw k := by unfold pw; simp
theorem numOf_bd : ∀ l, 0 ≤ numOf l ∧ numOf l < pw l.length
  | [] => by simp [numOf, pw]
  | b :: l => by
    have := numOf_bd l
    simp only [numOf, List.length_cons, pw_succ]
    split <;> omega
theorem numOf_append : ∀ l m, numOf (l ++ m) = numOf l + pw l.length * numOf m
  | [], m => by simp [numOf, pw]
  | b :: l, m => by
    have := numOf_append l m
    simp only [List.cons_append, numOf, List.length_cons, pw_succ, this, Int.mul_add, Int.mul_assoc, Int.add_assoc]
theorem numOf_snoc (l : List Bool) (b : Bool) : numOf (l ++ [b]) = numOf l + (if b then pw l.length else 0) := by
  rw [numOf_append]; cases b <;> simp [numOf]
/-- of equally many bits, the number tells them -/
theorem numOf_inj : ∀ l m : List Bool, l.length = m.length → numOf l = numOf m → l = m
  | [], [], _, _ => rfl
  | b :: l, c :: m, h, e => by
    simp only [numOf] at e
    have h1 : b = c := by cases b <;> cases c <;> simp at e ⊢ <;> omega
    subst h1
    rw [numOf_inj l m (by simpa using h) (by omega)]
  | [], _ :: _, h, _ => by simp at h
  | _ :: _, [], h, _ => by simp at h
/-- the bytes of bits, the last one filled with bits 0 -/
def bytesOf' (l : List Bool) : List Int := (List.range ((l.length + 7) / 8)).map fun k => numOf ((l.drop (8 * k)).take 8)
theorem bytesOf'_len (l : List Bool) : (bytesOf' l).length = (l.length + 7) / 8 := by simp [bytesOf']
theorem bytesOf'_get (l : List Bool) (k : Nat) (h : k < (l.length + 7) / 8) : (bytesOf' l).getD k 0 = numOf ((l.drop (8 * k)).take 8) := by
  simp [bytesOf', List.getD_eq_getElem?_getD, List.getElem?_map, List.getElem?_range h]
theorem pw_8 : pw 8 = 256 := by decide
theorem bytesOf'_ok (l : List Bool) : ∀ x, x ∈ bytesOf' l → 0 ≤ x ∧ x ≤ 255 := by
  intro x hx
  simp only [bytesOf', List.mem_map] at hx
  obtain ⟨k, _, rfl⟩ := hx
  have h := numOf_bd ((l.drop (8 * k)).take 8)
  have h2 := pw_mono (show ((l.drop (8 * k)).take 8).length ≤ 8 by rw [List.length_take]; omega)
  rw [pw_8] at h2
  omega
/-- eight bits of a byte are the byte -/
theorem byte_num (x : Int) (h0 : 0 ≤ x) (h1 : x ≤ 255) : numOf ((List.range 8).map fun i => decide (x / 2 ^ i % 2 = 1)) = x := by
  have e : (List.range 8) = [0, 1, 2, 3, 4, 5, 6, 7] := by decide
  rw [e]
  simp only [List.map_cons, List.map_nil, numOf, decide_eq_true_eq, show (2 : Int) ^ 0 = 1 from rfl, show (2 : Int) ^ 1 = 2 from rfl, show (2 : Int) ^ 2 = 4 from rfl, show (2 : Int) ^ 3 = 8 from rfl, show (2 : Int) ^ 4 = 16 from rfl, show (2 : Int) ^ 5 = 32 from rfl, show (2 : Int) ^ 6 = 64 from rfl, show (2 : Int) ^ 7 = 128 from rfl]
  have key : ∀ y : Int, (if y % 2 = 1 then (1 : Int) else 0) = y % 2 := by intro y; split <;> omega
  simp only [key]
  omega
theorem bits_byte (bs : List Int) (k : Nat) (h : k < bs.length) : ((bitsOf bs).drop (8 * k)).take 8 = (List.range 8).map fun i => decide (bs.getD k 0 / 2 ^ i % 2 = 1) := by
  apply List.ext_getElem?
  intro i
  rw [List.getElem?_take]
  by_cases hi : i < 8
  · rw [if_pos hi, List.getElem?_drop, bitsOf_get bs _ (by omega), List.getElem?_map, List.getElem?_range hi]
    simp only [bitAt, show (8 * k + i) / 8 = k by omega, show (8 * k + i) % 8 = i by omega, Option.map_some]
  · rw [if_neg hi, List.getElem?_eq_none (by rw [List.length_map, List.length_range]; omega)]
theorem ext_getD' {a b : List Int} (h : a.length = b.length) (k : ∀ i, i < a.length → a.getD i 0 = b.getD i 0) : a = b := by
  apply List.ext_getElem h
  intro i h1 h2
  have := k i h1
  simpa [List.getD_eq_getElem?_getD, List.getElem?_eq_getElem h1, List.getElem?_eq_getElem h2] using this
theorem ok_getD {bs : List Int} (h : ∀ x, x ∈ bs → 0 ≤ x ∧ x ≤ 255) (k : Nat) : 0 ≤ bs.getD k 0 ∧ bs.getD k 0 ≤ 255 := by
  rcases Nat.lt_or_ge k bs.length with hk | hk
  · have := h (bs[k]) (List.getElem_mem hk)
    simpa [List.getD_eq_getElem?_getD, List.getElem?_eq_getElem hk] using this
  · simp [List.getD_eq_getElem?_getD, List.getElem?_eq_none hk]
/-- bytes are the bytes of their bits -/
theorem bytes_bits (bs : List Int) (h : ∀ x, x ∈ bs → 0 ≤ x ∧ x ≤ 255) : bytesOf' (bitsOf bs) = bs := by
  apply ext_getD'
  · rw [bytesOf'_len, bitsOf_len]; omega
  · intro i hi
    rw [bytesOf'_len, bitsOf_len] at hi
    have hb := ok_getD h i
    rw [bytesOf'_get _ _ (by rw [bitsOf_len]; exact hi), bits_byte bs i (by omega), byte_num _ hb.1 hb.2]
theorem bits_drop (bs : List Int) (k : Nat) : (bitsOf bs).drop (8 * k) = bitsOf (bs.drop k) := by
  apply List.ext_getElem?
  intro i
  rw [List.getElem?_drop]
  rcases Nat.lt_or_ge (8 * k + i) (8 * bs.length) with h | h
  · rw [bitsOf_get _ _ h, bitsOf_get _ _ (by rw [List.length_drop]; omega)]
    simp only [bitAt, show (8 * k + i) / 8 = k + i / 8 by omega, show (8 * k + i) % 8 = i % 8 by omega, List.getD_eq_getElem?_getD, List.getElem?_drop]
  · rw [List.getElem?_eq_none (by rw [bitsOf_len]; exact h), List.getElem?_eq_none (by rw [bitsOf_len, List.length_drop]; omega)]
theorem bytes_drop (bs : List Int) (h : ∀ x, x ∈ bs → 0 ≤ x ∧ x ≤ 255) (k : Nat) : bytesOf' ((bitsOf bs).drop (8 * k)) = bs.drop k := by
  rw [bits_drop, bytes_bits _ (fun x hx => h x (List.mem_of_mem_drop hx))]
/-- what is taken: a number of so many bits, from a bit on -/
def numAt (bs : List Int) (t n : Nat) : Int := numOf (((bitsOf bs).drop t).take n)
theorem numAt_0 (bs : List Int) (t : Nat) : numAt bs t 0 = 0 := by simp [numAt, numOf]
theorem numAt_succ (bs : List Int) (t n : Nat) (h : t + n < 8 * bs.length) : numAt bs t (n + 1) = numAt bs t n + bitAt bs (t + n) * pw n := by
  unfold numAt
  have hl : n < ((bitsOf bs).drop t).length := by rw [List.length_drop, bitsOf_len]; omega
  rw [List.take_succ_eq_append_getElem hl, numOf_snoc]
  have hlen : (((bitsOf bs).drop t).take n).length = n := by rw [List.length_take]; omega
  rw [hlen]
  have e : ((bitsOf bs).drop t)[n] = decide (bitAt bs (t + n) = 1) := by
    have := bitsOf_get bs (t + n) h
    rw [← List.getElem?_drop, List.getElem?_eq_getElem hl] at this
    exact Option.some.inj this
  rw [e]
  have := bitAt_bd bs (t + n)
  by_cases hb : bitAt bs (t + n) = 1
  · simp [hb]
  · have : bitAt bs (t + n) = 0 := by omega
    simp [this]
theorem numAt_bd (bs : List Int) (t n : Nat) : 0 ≤ numAt bs t n ∧ numAt bs t n < pw n := by
  have h := numOf_bd (((bitsOf bs).drop t).take n)
  have h2 := pw_mono (show (((bitsOf bs).drop t).take n).length ≤ n by rw [List.length_take]; omega)
  unfold numAt; omega
theorem numOf_drop (l : List Bool) (m : Nat) (h : m < l.length) : numOf (l.drop m) = (if l.getD m false = true then 1 else 0) + 2 * numOf (l.drop (m + 1)) := by
  rw [List.drop_eq_getElem_cons h]
  simp only [numOf, List.getD_eq_getElem?_getD, List.getElem?_eq_getElem h, Option.getD_some]
/-- so many bytes of bits -/
def bytesN (N : Nat) (l : List Bool) : List Int := (List.range N).map fun k => numOf ((l.drop (8 * k)).take 8)
theorem bytesN_len (N : Nat) (l : List Bool) : (bytesN N l).length = N := by simp [bytesN]
theorem bytesN_get (N : Nat) (l : List Bool) (k : Nat) (h : k < N) : (bytesN N l).getD k 0 = numOf ((l.drop (8 * k)).take 8) := by
  simp [bytesN, List.getD_eq_getElem?_getD, List.getElem?_map, List.getElem?_range h]
theorem bytesN_nil (N : Nat) : bytesN N [] = List.replicate N 0 := by
  apply ext_getD'
  · rw [bytesN_len, List.length_replicate]
  · intro i hi
    rw [bytesN_len] at hi
    rw [bytesN_get _ _ _ hi]
    simp [numOf, List.getD_eq_getElem?_getD, List.getElem?_replicate, hi]
theorem getD_set' (l : List Int) (i j : Nat) (x : Int) (h : i < l.length) : (l.set i x).getD j 0 = if i = j then x else l.getD j 0 := by
  simp only [List.getD_eq_getElem?_getD, List.getElem?_set]
  split
  · rename_i e; subst e; simp
  · rfl
theorem bytesN_snoc (N : Nat) (m : List Bool) (b : Bool) (h : m.length / 8 < N) :
    bytesN N (m ++ [b]) = (bytesN N m).set (m.length / 8) ((bytesN N m).getD (m.length / 8) 0 + (if b = true then pw (m.length % 8) else 0)) := by
  apply ext_getD'
  · rw [List.length_set, bytesN_len, bytesN_len]
  · intro k hk
    rw [bytesN_len] at hk
    rw [getD_set' _ _ _ _ (by rw [bytesN_len]; exact h), bytesN_get _ _ _ hk, bytesN_get _ _ _ h, bytesN_get _ _ _ hk]
    rcases Nat.lt_trichotomy k (m.length / 8) with h1 | h1 | h1
    · rw [if_neg (by omega), List.drop_append_of_le_length (by omega), List.take_append_of_le_length (by rw [List.length_drop]; omega)]
    · rw [if_pos h1.symm, ← h1, List.drop_append_of_le_length (by omega)]
      have hl : (m.drop (8 * k)).length = m.length % 8 := by rw [List.length_drop]; omega
      rw [List.take_of_length_le (by rw [List.length_append]; simp; omega), List.take_of_length_le (by omega), numOf_snoc, hl]
    · rw [if_neg (by omega), List.drop_eq_nil_of_le (by rw [List.length_append]; simp; omega), List.drop_eq_nil_of_le (by omega)]
theorem bytesN_bd (N : Nat) (m : List Bool) (h : m.length / 8 < N) : 0 ≤ (bytesN N m).getD (m.length / 8) 0 ∧ (bytesN N m).getD (m.length / 8) 0 < pw (m.length % 8) := by
  rw [bytesN_get _ _ _ h, List.take_of_length_le (by rw [List.length_drop]; omega)]
  have hb := numOf_bd (m.drop (8 * (m.length / 8)))
  rw [show (m.drop (8 * (m.length / 8))).length = m.length % 8 by rw [List.length_drop]; omega] at hb
  exact hb
theorem bytesN_all (l : List Bool) : bytesN ((l.length + 7) / 8) l = bytesOf' l := rfl
theorem takeB_snoc (l : List Bool) (i : Nat) (h : i < l.length) : l.take (i + 1) = l.take i ++ [l.getD i false] := by
  rw [List.take_succ_eq_append_getElem h]; simp [List.getD_eq_getElem?_getD, List.getElem?_eq_getElem h]
end Go.Proofs.Ytmmfkmkhflieeaa
