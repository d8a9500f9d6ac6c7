/- Contracts of the reference of the layer bitf (puncheonref03.Reader): a list of bits, and how many were taken. -/
import Derived.Test.YtmmfkmkhflieeaaRb2
namespace Go.Proofs.Ytmmfkmkhflieeaa
open Go.RowKit Go.Proofs.YtmmfkmkhflieeaaW.PrintWords Go.Proofs.YtmmfkmkhflieeaaW.PrintLast Go.Proofs.YtmmfkmkhflieeaaW.PrintMore
attribute [local go_sem] max2_int min2_int max_two min_two max_three min_three max_four min_four
set_option linter.unusedSimpArgs false
set_option linter.unusedVariables false
theorem shr_zero_iff : ∀ x : Fin 256, ∀ s : Fin 8, (((x.val : Int) / 2 ^ s.val = 0) ↔ ∀ j : Fin 8, s.val ≤ j.val → (x.val : Int) / 2 ^ j.val % 2 ≠ 1) := by decide +kernel
/-- the rest of a byte is 0 where each of its bits is -/
theorem padOk_iff (bs : List Int) (t : Nat) (hok : ∀ x, x ∈ bs → 0 ≤ x ∧ x ≤ 255) (h8 : ¬ t % 8 = 0) (ht : t < 8 * bs.length) :
    padOk bs t = true ↔ ∀ j, t ≤ j → j < 8 * (t / 8 + 1) → (bitsOf bs).getD j false = false := by
  have hb := ok_getD hok (t / 8)
  unfold padOk
  simp only [h8, decide_false, Bool.false_or, decide_eq_true_eq]
  have key := shr_zero_iff ⟨(bs.getD (t / 8) 0).toNat, by omega⟩ ⟨t % 8, by omega⟩
  simp only [Int.toNat_of_nonneg hb.1] at key
  rw [key]
  constructor
  · intro h j h1 h2
    rw [bitsOf_getD _ _ (by omega)]
    have := h ⟨j % 8, by omega⟩ (show t % 8 ≤ j % 8 by omega)
    unfold bitAt
    rw [show j / 8 = t / 8 by omega]
    simpa using this
  · intro h j hj
    have := h (8 * (t / 8) + j.val) (show t ≤ 8 * (t / 8) + j.val by have : t % 8 ≤ j.val := hj; omega) (by have := j.isLt; omega)
    rw [bitsOf_getD _ _ (by have := j.isLt; omega)] at this
    unfold bitAt at this
    rw [show (8 * (t / 8) + j.val) / 8 = t / 8 by have := j.isLt; omega, show (8 * (t / 8) + j.val) % 8 = j.val by have := j.isLt; omega] at this
    simpa using this
theorem info_bool' : ∃ i, Try.prog.info? 4 = some i ∧ i.size = 1 := by
  obtain ⟨i, h1, h2⟩ := Option.map_eq_some_iff.1 info_bool
  simp only [Prod.mk.injEq] at h2
  exact ⟨i, h1, h2.2.1⟩
/-- a reader of bits: its bits, and how many were taken -/
def IsQ (A : Option Addr) (c : Nat) (w : World) (g : Nat) (bl : List Bool) (t : Nat) : Prop :=
  w.heap[g]? = some (.cells #[.slice A bl.length c, .int .i64 (t : Int)] 68 (0, 0)) ∧ bl.length ≤ c ∧ ReadsB w A bl.length bl
theorem IsQ.noB {A : Option Addr} {c : Nat} {w : World} {g : Nat} {bl : List Bool} {t : Nat} (h : IsQ A c w g bl t) : ∀ o x, w.cell? ⟨g, o, none⟩ ≠ some (.bool x) := by
  obtain ⟨hb, _, _⟩ := h
  intro o x e
  rw [blk_cell hb] at e
  rcases o with _ | _ | o <;> simp at e
theorem IsQ.noU8 {A : Option Addr} {c : Nat} {w : World} {g : Nat} {bl : List Bool} {t : Nat} (h : IsQ A c w g bl t) : ∀ o x, w.cell? ⟨g, o, none⟩ ≠ some (.int .u8 x) := by
  obtain ⟨hb, _, _⟩ := h
  intro o x e
  rw [blk_cell hb] at e
  rcases o with _ | _ | o <;> simp at e
theorem IsR.noB {A : Option Addr} {c : Nat} {w : World} {g : Nat} {bs : List Int} {t : Nat} (h : IsR A c w g bs t) : ∀ o x, w.cell? ⟨g, o, none⟩ ≠ some (.bool x) := by
  obtain ⟨hb, _, _⟩ := h
  intro o x e
  rw [blk_cell hb] at e
  rcases o with _ | _ | o <;> simp at e
theorem IsQ.grown {A : Option Addr} {c : Nat} {w w1 : World} {g g1 : Nat} {bl : List Bool} {t : Nat} (h : IsQ A c w g bl t) (hg : w.grownBy w1 (some g1)) (hne : g ≠ g1) (hno : ∀ o x, w.cell? ⟨g1, o, none⟩ ≠ some (.bool x)) : IsQ A c w1 g bl t := by
  obtain ⟨hb, hc, hr⟩ := h
  exact ⟨blk_grown hb hg (by simpa using hne), hc, readsOf_grown hr hg hno⟩
theorem IsQ.below {A : Option Addr} {c : Nat} {w w1 : World} {g : Nat} {bl : List Bool} {t : Nat} (h : IsQ A c w g bl t) (hb1 : Below w.heap.size w w1) : IsQ A c w1 g bl t := by
  obtain ⟨hb, hc, hr⟩ := h
  exact ⟨blk_below hb hb1, hc, hr.below hb1⟩
theorem IsQ.set {A : Option Addr} {c : Nat} {w : World} {g : Nat} {bl : List Bool} {t : Nat} (h : IsQ A c w g bl t) (u : Nat) : IsQ A c (w.setCell ⟨g, 1, none⟩ (.int .i64 (u : Int))) g bl u := by
  have hno := h.noB
  obtain ⟨hb, hc, hr⟩ := h
  refine ⟨by simpa using blk_set hb 1 (.int .i64 (u : Int)), hc, readsOf_grown hr (grown_set w g 1 _) hno⟩
set_option maxHeartbeats 400000 in
theorem qnew_any (A : Option Addr) (n : Nat) (l : List Int) (c : Nat) (w : World) (hn : l.length = n) (hr : ReadsInt w .u8 A n l) (hok : ∀ x, x ∈ l → 0 ≤ x ∧ x ≤ 255) (hm : n ≤ 1000000000000) :
    Calls Try.prog 18 #[.slice A n c] w fun e w' => ∃ g A1 c1, e = .returned (.pointer (some ⟨g, 0, none⟩)) ∧ w.heap.size ≤ g ∧ IsQ A1 c1 w' g (bitsOf l) 0 ∧ (∀ ad, A1 = some ad → w.heap.size ≤ ad.block) ∧ Below w.heap.size w w' := by
  have HC := Lib.hid (bits_any A n l c w hn hr hok hm)
  have HL := Lib.hid (show (bitsOf l).length = 8 * n by rw [bitsOf_len, hn])
  clear hr hok hn
  go_enter Try.func18, Try.ntmps18
  go_wp2_with (go_at_call 26; (with_reducible refine HC.out.mono ?_); rintro e w1 ⟨v, rfl, ho, hb⟩; obtain ⟨A1, c1, rfl, hle, hr⟩ := own_reads_of_le (d := false) ho; have HR := Lib.hid hr; have HB := Lib.hid hb; have HG := Lib.hid (own_from ho); clear ho hb hr)
  go_ret
  exact ⟨_, _, _, rfl, HB.out.size, ⟨by rw [HL.out]; exact heap_alloc_new w1 _, by rw [HL.out]; exact hle, by rw [HL.out]; exact HR.out.below ((Below.refl _ _).alloc (Nat.le_refl _) _)⟩, HG.out, HB.out.alloc HB.out.size _⟩
set_option maxHeartbeats 400000 in
theorem qleft_any {A : Option Addr} {c : Nat} (g : Nat) (bl : List Bool) (t : Nat) (w : World) (h : IsQ A c w g bl t) (ht : t ≤ bl.length) :
    Calls Try.prog 23 #[.pointer (some ⟨g, 0, none⟩)] w fun e w' => e = .returned (.int .i64 ((bl.length : Int) - t)) ∧ ∃ nq, w' = w.drewN nq := by
  obtain ⟨hb, _, hr⟩ := h
  have h0 := blk_cell hb 0
  have h1 := blk_cell hb 1
  simp at h0 h1
  have hm : bl.length ≤ 9223372036854775807 := hr.2.1
  clear hb hr
  go_enter Try.func23, Try.ntmps23
  go_wp2
  go_quiet (fail)
  go_wp2
  go_ret
  exact ⟨rfl, _, rfl⟩
theorem qleft_at {A : Option Addr} {c : Nat} (g : Nat) (bl : List Bool) (t : Nat) (w : World) (h : IsQ A c w g bl t) (ht : t ≤ bl.length) :
    Calls Try.prog 23 #[.pointer (some ⟨g, 0, none⟩)] w fun e w' => e = .returned (.int .i64 ((bl.length : Int) - t)) ∧ IsQ A c w' g bl t ∧ w.grownBy w' (some g) :=
  (qleft_any g bl t w h ht).mono fun e w' ⟨he, nq, hw⟩ => ⟨he, by rw [hw]; exact h.below (below_drewN' (Below.refl _ _) _), by rw [hw]; exact grown_drewN (World.grownBy.refl _ _) _⟩
theorem bleft_at {A : Option Addr} {c : Nat} (g : Nat) (bs : List Int) (t : Nat) (w : World) (h : IsR A c w g bs t) (ht : t ≤ 8 * bs.length) (hm : bs.length ≤ 140737488351232) :
    Calls Try.prog 22 #[.pointer (some ⟨g, 0, none⟩)] w fun e w' => e = .returned (.int .i64 (8 * (bs.length : Int) - t)) ∧ IsR A c w' g bs t ∧ w.grownBy w' (some g) :=
  (bleft_any g bs t w h ht hm).mono fun e w' ⟨he, nq, hw⟩ => ⟨he, by rw [hw]; exact h.below (below_drewN' (Below.refl _ _) _), by rw [hw]; exact grown_drewN (World.grownBy.refl _ _) _⟩
set_option maxHeartbeats 1000000 in
theorem qtake_no {A : Option Addr} {c : Nat} (g : Nat) (bl : List Bool) (t : Nat) (n : Int) (w : World) (h : IsQ A c w g bl t) (ht : t ≤ bl.length) (hn : n < 0 ∨ (0 ≤ n ∧ (24 < n ∨ (n ≤ 24 ∧ (bl.length : Int) - t < n)))) :
    Calls Try.prog 58 #[.pointer (some ⟨g, 0, none⟩), .int .i64 n] w fun e w' => e = .returned (.tuple #[.int .u32 0, .bool false]) ∧ IsQ A c w' g bl t ∧ w.grownBy w' (some g) := by
  have HI := Lib.hid h
  clear h
  rcases hn with hn | ⟨h0, hn | ⟨h1, hn⟩⟩
  all_goals
    go_enter Try.func58, Try.ntmps58
    go_wp2_with (go_at_call 23; (with_reducible refine (qleft_any g bl t _ HI.out ht).mono ?_); rintro e w1 ⟨rfl, nq, rfl⟩)
    go_ret2
    first
      | exact ⟨rfl, HI.out, World.grownBy.refl _ _⟩
      | exact ⟨rfl, HI.out.below (below_drewN' (Below.refl _ _) _), grown_drewN (World.grownBy.refl _ _) _⟩
set_option maxHeartbeats 1000000 in
theorem qtake_ok {A : Option Addr} {c : Nat} (g : Nat) (bl : List Bool) (t n : Nat) (w : World) (h : IsQ A c w g bl t) (ht : t + n ≤ bl.length) (hn : n ≤ 24) :
    Calls Try.prog 58 #[.pointer (some ⟨g, 0, none⟩), .int .i64 (n : Int)] w fun e w' => e = .returned (.tuple #[.int .u32 (numOf ((bl.drop t).take n)), .bool true]) ∧ IsQ A c w' g bl (t + n) ∧ w.grownBy w' (some g) := by
  have HI := Lib.hid h
  have hm : bl.length ≤ 9223372036854775807 := by obtain ⟨_, _, hr⟩ := h; exact hr.2.1
  clear h
  go_enter Try.func58, Try.ntmps58
  go_wp2_with (go_at_call 23; (with_reducible refine (qleft_at g bl t _ HI.out (by omega)).mono ?_); rintro e w1 ⟨rfl, hI1, hG1⟩; have HI1 := Lib.hid hI1; have HG1 := Lib.hid hG1; clear hI1 hG1 HI)
  obtain ⟨hb, hc, hr⟩ := HI1.out
  have h0 := blk_cell hb 0
  have h1 := blk_cell hb 1
  simp at h0 h1
  obtain ⟨i, hi1, hi2⟩ := info_bool'
  obtain ⟨A', hsl, hrd, hle⟩ := print_mid_of (P := Try.prog) Value.bool false 27 4 .i64 .i64 Try.underlying27 hi1 hi2 A c bl (t : Int) ((t : Int) + (n : Int)) (by omega) (by omega) (by omega) hc
  have e2 : (bl.take ((t : Int) + (n : Int)).toNat).drop (t : Int).toNat = (bl.drop t).take n := by
    rw [show ((t : Int) + (n : Int)).toNat = t + n by omega, Int.toNat_natCast, List.drop_take, Nat.add_sub_cancel_left]
  have hl : ((bl.drop t).take n).length = n := by rw [List.length_take, List.length_drop]; omega
  rw [e2, hl, Int.toNat_natCast] at hsl
  rw [e2, hl] at hrd
  have HN := Lib.hid (fun W (hW : ReadsB W A bl.length bl) => (number_any A' n ((bl.drop t).take n) (c - t) W hl (hrd W hW) (by omega)).mono (fun e w' hh => (⟨hh.1, hh.2.symm⟩ : e = _ ∧ w' = W)))
  have HR := Lib.hid hr
  have hwrap : IntKind.i64.wrap ((t : Int) + (n : Int)) = (t : Int) + (n : Int) := IntWalk.i64_in _ (by omega)
  clear hb hr hi1 hi2 hrd hle e2 hl hc
  go_quiet ((go_at_call 68; exact Calls.quiet_of_same (HN.out _ (HR.out.below (below_drewN' (Below.refl _ _) _)))))
  clear hwrap hsl h0 h1 HN HR
  have HI2 := Lib.hid (HI1.out.below (below_drewN' (Below.refl _ _) nq))
  have HG2 := Lib.hid (grown_drewN HG1.out nq)
  generalize w1.drewN nq = w2 at HI2 HG2 ⊢
  obtain ⟨hb, hc, hr⟩ := HI2.out
  have h0 := blk_cell hb 0
  have h1 := blk_cell hb 1
  have hf := blk_frozen hb 1
  simp at h0 h1
  clear hb hc hr HI1 HG1
  go_wp2
  go_ret2
  exact ⟨rfl, by have h := HI2.out.set (t + n); rwa [show ((t + n : Nat) : Int) = (t : Int) + (n : Int) by omega] at h, HG2.out.trans (grown_set _ _ _ _)⟩
end Go.Proofs.Ytmmfkmkhflieeaa
