/- Bits that are put by the reference (puncheonref01.Put): a row of bools, as an object. -/
import Derived.Test.YtbcpngaebijddaaHl
import Derived.Test.YtbcpngaebijddaaEv
import Derived.Test.YtbcpngaebijddaaPPrx1
namespace Go.Proofs.Ytbcpngaebijddaa
open Go.RowKit Go.Proofs.YtbcpngaebijddaaW.PrintWords Go.Proofs.YtbcpngaebijddaaW.PrintLast Go.Proofs.YtbcpngaebijddaaW.PrintMore PPr
set_option linter.unusedSimpArgs false
set_option linter.unusedVariables false
theorem bitsN_cons (v : Int) (j : Nat) : bitsN v (j + 1) = decide (v % 2 = 1) :: bitsN (v / 2) j := by
  unfold bitsN
  rw [List.range_succ_eq_map, List.map_cons, List.map_map]
  congr 1
  · simp
  · apply List.map_congr_left
    intro i _
    simp only [Function.comp]
    rw [Int.pow_succ, Int.mul_comm, ← Int.ediv_ediv_of_nonneg (by omega)]
theorem put01_l0 (n : Int) (hn : n ≤ 64) : ∀ (j : Nat) (v : Int) (l : List Bool) (i : Int), 0 ≤ v → v < 4294967296 → n = i + j → 0 ≤ i → l.length + j ≤ 1000000000000 → puncheonref01_Put.l0 (j + 1) v n l i = some (l ++ bitsN v j)
  | 0, v, l, i, h0, h1, h2, h3, h4 => by
    rw [puncheonref01_Put.l0, if_neg (by omega)]; simp [bitsN]
  | j + 1, v, l, i, h0, h1, h2, h3, h4 => by
    rw [puncheonref01_Put.l0, if_pos (by omega), if_pos (by omega)]
    have e1 : wrap64 (i + 1) = i + 1 := by unfold wrap64; omega
    have e2 : (Int.tdiv v 2) % 4294967296 = v / 2 := by rw [Int.tdiv_eq_ediv_of_nonneg h0]; omega
    have e3 : (Int.tmod v 2 == 1) = decide (v % 2 = 1) := by rw [Int.tmod_eq_emod_of_nonneg h0]; rfl
    rw [e1, e2, e3, put01_l0 n hn j (v / 2) _ (i + 1) (by omega) (by omega) (by omega) (by omega) (by rw [List.length_append]; simp; omega), bitsN_cons, List.append_assoc]
    rfl
theorem put01_f (l : List Bool) (v : Int) (j : Nat) (h0 : 0 ≤ v) (h1 : v < 4294967296) (h2 : j ≤ 64) (h3 : l.length ≤ 100000000000) : puncheonref01_Put.f (j + 1) l v (j : Int) = some (l ++ bitsN v j) := by
  unfold puncheonref01_Put.f
  rw [Option.bind_some, if_pos (by simp; omega), List.nil_append, put01_l0 (j : Int) (by omega) j v l 0 h0 h1 (by omega) (by omega) (by omega)]
theorem readsB_C {w : World} {A : Option Addr} {n : Nat} {l : List Bool} (h : ReadsB w A n l) : Kd.C Kd.bool w A n l := by
  refine ⟨h.1, h.2.1, fun hn => ?_⟩
  obtain ⟨ad, e, hc⟩ := h.2.2 hn
  refine ⟨ad, e, fun j p hp => ⟨[.bool p], rfl, rfl, fun i u hu => ?_⟩⟩
  have hj : j < n := by have := (List.getElem?_eq_some_iff.1 hp).1; have := h.1; omega
  have hi : i = 0 := by
    rcases i with _ | i
    · rfl
    · simp at hu
  subst hi
  simp at hu
  subst hu
  have := hc j hj
  rw [List.getD_eq_getElem?_getD, hp] at this
  rw [show j * Kd.bool.sz + 0 = j from Nat.mul_one j]
  exact this
theorem readsB_of_C {w : World} {A : Option Addr} {n : Nat} {l : List Bool} (h : Kd.C Kd.bool w A n l) : ReadsB w A n l := by
  refine ⟨h.1, h.2.1, fun hn => ?_⟩
  obtain ⟨ad, e, _⟩ := Kd.at_bool h 0 (by omega) (by omega)
  refine ⟨ad, e, fun j hj => ?_⟩
  obtain ⟨ad', e', hc⟩ := Kd.at_bool h (j : Int) (by omega) (by omega)
  rw [e] at e'
  cases e'
  rw [Int.toNat_natCast] at hc
  rw [hc]
  simp only [rdOf, Int.toNat_natCast]
theorem put01_any (A : Option Addr) (n c : Nat) (l : List Bool) (v : Int) (j : Nat) (w : World) (hr : ReadsB w A n l) (hc : n ≤ c) (h0 : 0 ≤ v) (h1 : v < 4294967296) (h2 : j ≤ 64) (h3 : l.length ≤ 100000000000) :
    Calls Try.prog 27 #[.slice A n c, .int .u32 v, .int .i64 (j : Int)] w fun e w' => ∃ A1 c1, e = .returned (.slice A1 (n + j) c1) ∧ n + j ≤ c1 ∧ ReadsB w' A1 (n + j) (l ++ bitsN v j) ∧ (∀ ad, A1 = some ad → w.heap.size ≤ ad.block) ∧ Below w.heap.size w w' := by
  obtain rfl := hr.1
  refine (puncheonref01_Put.calls (j + 1) A c l v (j : Int) _ w (readsB_C hr) hc (put01_f l v j h0 h1 h2 h3)).mono ?_
  rintro e w' ⟨v0, rfl, hR, hb⟩
  obtain ⟨A1, c1, rfl⟩ := Kd.R_slice hR
  have hB := Kd.R_base hR
  obtain ⟨_, hle, hC⟩ := Kd.R_reads' hR
  have hl : (l ++ bitsN v j).length = l.length + j := by rw [List.length_append, bitsN_len]
  rw [hl] at hle hC ⊢
  refine ⟨A1, c1, rfl, hle, readsB_of_C hC, ?_, hb⟩
  rintro ad rfl
  exact hB ad.block rfl
/-- a row of bools that reads, as an object -/
def bitO (A : Option Addr) (n : Nat) (l : List Bool) : Ob where
  P W F := ReadsB W A n l ∧ F = rowF A n
  loc := by
    rintro W W' F ⟨h, rfl⟩ hk
    exact ⟨readsOf_loc h hk, rfl⟩
  lt := by
    rintro W F ⟨h, rfl⟩ k hk
    exact readsOf_lt h k hk
theorem bitO_nil (W : World) : (bitO none 0 []).P W (rowF none 0) := ⟨⟨rfl, by omega, fun h => by omega⟩, rfl⟩
section
variable {w0 W : World} {os : List Ob}
theorem Hold.nilB (H : Hold w0 W os) : Hold w0 W (bitO none 0 [] :: os) := H.new (Below.refl _ _) (bitO_nil W) (fun k hk => by obtain ⟨h, _⟩ := hk; omega)
theorem Hold.rowB {A : Option Addr} {n : Nat} {l : List Bool} (H : Hold w0 W (bitO A n l :: os)) : ReadsB W A n l := by
  obtain ⟨F, h⟩ := H.head
  exact h.1
theorem hPut01 {A : Option Addr} {n c : Nat} {l : List Bool} {v : Int} {j : Nat} (H : Hold w0 W (bitO A n l :: os)) (hc : n ≤ c) (h0 : 0 ≤ v) (h1 : v < 4294967296) (h2 : j ≤ 64) (h3 : l.length ≤ 100000000000) :
    Calls Try.prog 27 #[.slice A n c, .int .u32 v, .int .i64 (j : Int)] W fun e w' => ∃ A1 c1, e = .returned (.slice A1 (n + j) c1) ∧ n + j ≤ c1 ∧ Hold w0 w' (bitO A1 (n + j) (l ++ bitsN v j) :: os) := by
  refine (put01_any A n c l v j W H.rowB hc h0 h1 h2 h3).mono ?_
  rintro e w' ⟨A1, c1, rfl, hle, hr, hA, hb⟩
  exact ⟨A1, c1, rfl, hle, H.drop.new hb ⟨hr, rfl⟩ (fun k ⟨_, ad, e, h⟩ => by rw [h]; exact hA ad e)⟩
end
end Go.Proofs.Ytbcpngaebijddaa
