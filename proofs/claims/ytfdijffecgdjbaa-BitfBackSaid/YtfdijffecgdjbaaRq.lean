/- Contracts of the reference of the layer bitf (puncheonref03.Reader): a list of bits, and how many were taken. -/
import Derived.Test.YtfdijffecgdjbaaRb2
namespace Go.Proofs.Ytfdijffecgdjbaa
open Go.RowKit Go.Proofs.YtfdijffecgdjbaaW.PrintWords Go.Proofs.YtfdijffecgdjbaaW.PrintLast Go.Proofs.YtfdijffecgdjbaaW.PrintMore
attribute [local go_sem] max2_int min2_int max_two min_two max_three min_three max_four min_four
set_option linter.unusedSimpArgs false
set_option linter.unusedVariables false
theorem shr_zero_iff : ∀ x : Fin 256, ∀ s : Fin 8, (((x.val : Int) / 2 ^ s.val = 0) ↔ ∀ j : Fin 8, s.val ≤ j.val → (x.val : Int) / 2 ^ j.val % 2 ≠ 1) := by decide +kernel
/-- the rest of a byte is 0 where each of its bits is -/
theorem padOk_iff (bs : List Int) (t : Nat) (hok : ∀ x, x ∈ bs → 0 ≤ x ∧ x ≤ 255) (h8 : ¬ t % 8 = 0) (ht : t < 8 * bs.length) :
    padOk bs t = true ↔ ∀ j, t ≤ j → j < 8 * (t / 8 + 1) → (bitsOf bs).getD j false = false := by
  have hb := ok_getD hok (t / 8)
  unfold padOk
  simp only [h8, decide_false, Bool.false_or, decide_eq_true_eq]
  have key := shr_zero_iff ⟨(bs.getD (t / 8) 0).toNat, by omega⟩ ⟨t % 8, by omega⟩
  simp only [Int.toNat_of_nonneg hb.1] at key
  rw [key]
  constructor
  · intro h j h1 h2
    rw [bitsOf_getD _ _ (by omega)]
    have := h ⟨j % 8, by omega⟩ (show t % 8 ≤ j % 8 by omega)
    unfold bitAt
    rw [show j / 8 = t / 8 by omega]
    simpa using this
  · intro h j hj
    have := h (8 * (t / 8) + j.val) (show t ≤ 8 * (t / 8) + j.val by have : t % 8 ≤ j.val := hj; omega) (by have := j.isLt; omega)
    rw [bitsOf_getD _ _ (by have := j.isLt; omega)] at this
    unfold bitAt at this
    rw [show (8 * (t / 8) + j.val) / 8 = t / 8 by have := j.isLt; omega, show (8 * (t / 8) + j.val) % 8 = j.val by have := j.isLt; omega] at this
    simpa using this
theorem info_bool' : ∃ i, Try.prog.info? 4 = some i ∧ i.size = 1 := by
  obtain ⟨i, h1, h2⟩ := Option.map_eq_some_iff.1 info_bool
  simp only [Prod.mk.injEq] at h2
  exact ⟨i, h1, h2.2.1⟩
/-- a reader of bits: its bits, and how many were taken -/
def IsQ (A : Option Addr) (c : Nat) (w : World) (g : Nat) (bl : List Bool) (t : Nat) : Prop :=
  w.heap[g]? = some (.cells #[.slice A bl.length c, .int .i64 (t : Int)] 51 (0, 0)) ∧ bl.length ≤ c ∧ ReadsB w A bl.length bl
theorem IsQ.noB {A : Option Addr} {c : Nat} {w : World} {g : Nat} {bl : List Bool} {t : Nat} (h : IsQ A c w g bl t) : ∀ o x, w.cell? ⟨g, o, none⟩ ≠ some (.bool x) := by
  obtain ⟨hb, _, _⟩ := h
  intro o x e
  rw [blk_cell hb] at e
  rcases o with _ | _ | o <;> simp at e
theorem IsQ.noU8 {A : Option Addr} {c : Nat} {w : World} {g : Nat} {bl : List Bool} {t : Nat} (h : IsQ A c w g bl t) : ∀ o x, w.cell? ⟨g, o, none⟩ ≠ some (.int .u8 x) := by
  obtain ⟨hb, _, _⟩ := h
  intro o x e
  rw [blk_cell hb] at e
  rcases o with _ | _ | o <;> simp at e
theorem IsR.noB {A : Option Addr} {c : Nat} {w : World} {g : Nat} {bs : List Int} {t : Nat} (h : IsR A c w g bs t) : ∀ o x, w.cell? ⟨g, o, none⟩ ≠ some (.bool x) := by
  obtain ⟨hb, _, _⟩ := h
  intro o x e
  rw [blk_cell hb] at e
  rcases o with _ | _ | o <;> simp at e
theorem IsQ.grown {A : Option Addr} {c : Nat} {w w1 : World} {g g1 : Nat} {bl : List Bool} {t : Nat} (h : IsQ A c w g bl t) (hg : w.grownBy w1 (some g1)) (hne : g ≠ g1) (hno : ∀ o x, w.cell? ⟨g1, o, none⟩ ≠ some (.bool x)) : IsQ A c w1 g bl t := by
  obtain ⟨hb, hc, hr⟩ := h
  exact ⟨blk_grown hb hg (by simpa using hne), hc, readsOf_grown hr hg hno⟩
theorem IsQ.below {A : Option Addr} {c : Nat} {w w1 : World} {g : Nat} {bl : List Bool} {t : Nat} (h : IsQ A c w g bl t) (hb1 : Below w.heap.size w w1) : IsQ A c w1 g bl t := by
  obtain ⟨hb, hc, hr⟩ := h
  exact ⟨blk_below hb hb1, hc, hr.below hb1⟩
theorem IsQ.set {A : Option Addr} {c : Nat} {w : World} {g : Nat} {bl : List Bool} {t : Nat} (h : IsQ A c w g bl t) (u : Nat) : IsQ A c (w.setCell ⟨g, 1, none⟩ (.int .i64 (u : Int))) g bl u := by
  have hno := h.noB
  obtain ⟨hb, hc, hr⟩ := h
  refine ⟨by simpa using blk_set hb 1 (.int .i64 (u : Int)), hc, readsOf_grown hr (grown_set w g 1 _) hno⟩
set_option maxHeartbeats 400000 in
theorem qnew_any (A : Option Addr) (n : Nat) (l : List Int) (c : Nat) (w : World) (hn : l.length = n) (hr : ReadsInt w .u8 A n l) (hok : ∀ x, x ∈ l → 0 ≤ x ∧ x ≤ 255) (hm : n ≤ 1000000000000) :
    Calls Try.prog 9 #[.slice A n c] w fun e w' => ∃ g A1 c1, e = .returned (.pointer (some ⟨g, 0, none⟩)) ∧ w.heap.size ≤ g ∧ IsQ A1 c1 w' g (bitsOf l) 0 ∧ (∀ ad, A1 = some ad → w.heap.size ≤ ad.block) ∧ Below w.heap.size w w' := by
  have HC := Lib.hid (bits_any A n l c w hn hr hok hm)
  have HL := Lib.hid (show (bitsOf l).length = 8 * n by rw [bitsOf_len, hn])
  clear hr hok hn
  go_enter Try.func9, Try.ntmps9
  go_wp2_with (go_at_call 23; (with_reducible refine HC.out.mono ?_); rintro e w1 ⟨v, rfl, ho, hb⟩; obtain ⟨A1, c1, rfl, hle, hr⟩ := own_reads_of_le (d := false) ho; have HR := Lib.hid hr; have HB := Lib.hid hb; have HG := Lib.hid (own_from ho); clear ho hb hr)
  go_ret
  exact ⟨_, _, _, rfl, HB.out.size, ⟨by rw [HL.out]; exact heap_alloc_new w1 _, by rw [HL.out]; exact hle, by rw [HL.out]; exact HR.out.below ((Below.refl _ _).alloc (Nat.le_refl _) _)⟩, HG.out, HB.out.alloc HB.out.size _⟩
set_option maxHeartbeats 400000 in
theorem qleft_any {A : Option Addr} {c : Nat} (g : Nat) (bl : List Bool) (t : Nat) (w : World) (h : IsQ A c w g bl t) (ht : t ≤ bl.length) :
    Calls Try.prog 15 #[.pointer (some ⟨g, 0, none⟩)] w fun e w' => e = .returned (.int .i64 ((bl.length : Int) - t)) ∧ ∃ nq, w' = w.drewN nq := by
  obtain ⟨hb, _, hr⟩ := h
  have h0 := blk_cell hb 0
  have h1 := blk_cell hb 1
  simp at h0 h1
  have hm : bl.length ≤ 9223372036854775807 := hr.2.1
  clear hb hr
  go_enter Try.func15, Try.ntmps15
  go_wp2
  go_quiet (fail)
  go_wp2
  go_ret
  exact ⟨rfl, _, rfl⟩
theorem qleft_at {A : Option Addr} {c : Nat} (g : Nat) (bl : List Bool) (t : Nat) (w : World) (h : IsQ A c w g bl t) (ht : t ≤ bl.length) :
    Calls Try.prog 15 #[.pointer (some ⟨g, 0, none⟩)] w fun e w' => e = .returned (.int .i64 ((bl.length : Int) - t)) ∧ IsQ A c w' g bl t ∧ w.grownBy w' (some g) :=
  (qleft_any g bl t w h ht).mono fun e w' ⟨he, nq, hw⟩ => ⟨he, by rw [hw]; exact h.below (below_drewN' (Below.refl _ _) _), by rw [hw]; exact grown_drewN (World.grownBy.refl _ _) _⟩
theorem bleft_at {A : Option Addr} {c : Nat} (g : Nat) (bs : List Int) (t : Nat) (w : World) (h : IsR A c w g bs t) (ht : t ≤ 8 * bs.length) (hm : bs.length ≤ 140737488351232) :
    Calls Try.prog 14 #[.pointer (some ⟨g, 0, none⟩)] w fun e w' => e = .returned (.int .i64 (8 * (bs.length : Int) - t)) ∧ IsR A c w' g bs t ∧ w.grownBy w' (some g) :=
  (bleft_any g bs t w h ht hm).mono fun e w' ⟨he, nq, hw⟩ => ⟨he, by rw [hw]; exact h.below (below_drewN' (Below.refl _ _) _), by rw [hw]; exact grown_drewN (World.grownBy.refl _ _) _⟩
set_option maxHeartbeats 1000000 in
theorem qtake_no {A : Option Addr} {c : Nat} (g : Nat) (bl : List Bool) (t : Nat) (n : Int) (w : World) (h : IsQ A c w g bl t) (ht : t ≤ bl.length) (hn : n < 0 ∨ (0 ≤ n ∧ (24 < n ∨ (n ≤ 24 ∧ (bl.length : Int) - t < n)))) :
    Calls Try.prog 13 #[.pointer (some ⟨g, 0, none⟩), .int .i64 n] w fun e w' => e = .returned (.tuple #[.int .u32 0, .bool false]) ∧ IsQ A c w' g bl t ∧ w.grownBy w' (some g) := by
  have HI := Lib.hid h
  clear h
  rcases hn with hn | ⟨h0, hn | ⟨h1, hn⟩⟩
  all_goals
    go_enter Try.func13, Try.ntmps13
    go_wp2_with (go_at_call 15; (with_reducible refine (qleft_any g bl t _ HI.out ht).mono ?_); rintro e w1 ⟨rfl, nq, rfl⟩)
    go_ret2
    first
      | exact ⟨rfl, HI.out, World.grownBy.refl _ _⟩
      | exact ⟨rfl, HI.out.below (below_drewN' (Below.refl _ _) _), grown_drewN (World.grownBy.refl _ _) _⟩
set_option maxHeartbeats 1000000 in
theorem qtake_ok {A : Option Addr} {c : Nat} (g : Nat) (bl : List Bool) (t n : Nat) (w : World) (h : IsQ A c w g bl t) (ht : t + n ≤ bl.length) (hn : n ≤ 24) :
    Calls Try.prog 13 #[.pointer (some ⟨g, 0, none⟩), .int .i64 (n : Int)] w fun e w' => e = .returned (.tuple #[.int .u32 (numOf ((bl.drop t).take n)), .bool true]) ∧ IsQ A c w' g bl (t + n) ∧ w.grownBy w' (some g) := by
  have HI := Lib.hid h
  have hm : bl.length ≤ 9223372036854775807 := by obtain ⟨_, _, hr⟩ := h; exact hr.2.1
  clear h
  go_enter Try.func13, Try.ntmps13
  go_wp2_with (go_at_call 15; (with_reducible refine (qleft_at g bl t _ HI.out (by omega)).mono ?_); rintro e w1 ⟨rfl, hI1, hG1⟩; have HI1 := Lib.hid hI1; have HG1 := Lib.hid hG1; clear hI1 hG1 HI)
  obtain ⟨hb, hc, hr⟩ := HI1.out
  have h0 := blk_cell hb 0
  have h1 := blk_cell hb 1
  simp at h0 h1
  obtain ⟨i, hi1, hi2⟩ := info_bool'
  obtain ⟨A', hsl, hrd, hle⟩ := print_mid_of (P := Try.prog) Value.bool false 48 4 .i64 .i64 Try.underlying48 hi1 hi2 A c bl (t : Int) ((t : Int) + (n : Int)) (by omega) (by omega) (by omega) hc
  have e2 : (bl.take ((t : Int) + (n : Int)).toNat).drop (t : Int).toNat = (bl.drop t).take n := by
    rw [show ((t : Int) + (n : Int)).toNat = t + n by omega, Int.toNat_natCast, List.drop_take, Nat.add_sub_cancel_left]
  have hl : ((bl.drop t).take n).length = n := by rw [List.length_take, List.length_drop]; omega
  rw [e2, hl, Int.toNat_natCast] at hsl
  rw [e2, hl] at hrd
  have HN := Lib.hid (fun W (hW : ReadsB W A bl.length bl) => (number_any A' n ((bl.drop t).take n) (c - t) W hl (hrd W hW) (by omega)).mono (fun e w' hh => (⟨hh.1, hh.2.symm⟩ : e = _ ∧ w' = W)))
  have HR := Lib.hid hr
  have hwrap : IntKind.i64.wrap ((t : Int) + (n : Int)) = (t : Int) + (n : Int) := IntWalk.i64_in _ (by omega)
  clear hb hr hi1 hi2 hrd hle e2 hl hc
  go_quiet ((go_at_call 25; exact Calls.quiet_of_same (HN.out _ (HR.out.below (below_drewN' (Below.refl _ _) _)))))
  clear hwrap hsl h0 h1 HN HR
  have HI2 := Lib.hid (HI1.out.below (below_drewN' (Below.refl _ _) nq))
  have HG2 := Lib.hid (grown_drewN HG1.out nq)
  generalize w1.drewN nq = w2 at HI2 HG2 ⊢
  obtain ⟨hb, hc, hr⟩ := HI2.out
  have h0 := blk_cell hb 0
  have h1 := blk_cell hb 1
  have hf := blk_frozen hb 1
  simp at h0 h1
  clear hb hc hr HI1 HG1
  go_wp2
  go_ret2
  exact ⟨rfl, by have h := HI2.out.set (t + n); rwa [show ((t + n : Nat) : Int) = (t : Int) + (n : Int) by omega] at h, HG2.out.trans (grown_set _ _ _ _)⟩
set_option maxHeartbeats 1000000 in
theorem qpad_yes {A : Option Addr} {c : Nat} (g : Nat) (bs : List Int) (t : Nat) (w : World) (h : IsQ A c w g (bitsOf bs) t) (ht : t ≤ 8 * bs.length) (hok : ∀ x, x ∈ bs → 0 ≤ x ∧ x ≤ 255) (hp : padOk bs t = true) :
    Calls Try.prog 11 #[.pointer (some ⟨g, 0, none⟩)] w fun e w' => e = .returned (.bool true) ∧ IsQ A c w' g (bitsOf bs) (8 * ((t + 7) / 8)) ∧ w.grownBy w' (some g) := by
  have HI := Lib.hid h
  have HL := Lib.hid (bitsOf_len bs)
  have HP := Lib.hid (fun h8 htl => (padOk_iff bs t hok h8 htl).1 hp)
  obtain ⟨hb, hc, hr⟩ := h
  have hm : (bitsOf bs).length ≤ 9223372036854775807 := hr.2.1
  rw [bitsOf_len] at hm
  have h0 := blk_cell hb 0
  have h1 := blk_cell hb 1
  have hf := blk_frozen hb 1
  simp at h0 h1
  rw [HL.out] at h0
  have HR := Lib.hid hr
  clear hb hr hc hp hok
  go_enter Try.func11, Try.ntmps11
  go_wp2
  go_loopg [3] (8 * ((t + 7) / 8) - t) (fun k q wr => ∃ a : Nat, t ≤ a ∧ a ≤ 8 * ((t + 7) / 8) ∧ k = 8 * ((t + 7) / 8) - a ∧ q = .int .i64 a ∧ wr = w)
  case atStart => exact ⟨t, by omega, by omega, rfl, rfl, rfl⟩
  case round =>
    obtain ⟨a, ha, ha2, hk, rfl, rfl⟩ := hrel
    have HK := Lib.hid hk
    clear hk
    by_cases h8 : a % 8 = 0
    · have hd : ((a : Int) % 8 != 0) = false := by simp; omega
      obtain rfl : a = 8 * ((t + 7) / 8) := by omega
      have E := Lib.hid (show ((8 * ((t + 7) / 8) : Nat) : Int) = 8 * (((t : Int) + 7) / 8) by omega)
      have z0 : 0 ≤ ((8 * ((t + 7) / 8) : Nat) : Int) := by omega
      have z1 : ((8 * ((t + 7) / 8) : Nat) : Int) ≤ 8 * (bs.length : Int) := by omega
      generalize ((8 * ((t + 7) / 8) : Nat) : Int) = Z at hd E z0 z1 ⊢
      have h' := HI.out.set (8 * ((t + 7) / 8))
      have hE2 : ((8 * ((t + 7) / 8) : Nat) : Int) = Z := by rw [E.out]; omega
      rw [hE2] at h'
      have HF := Lib.hid h'
      clear h' hE2
      go_wp2
      go_ret
      exact ⟨rfl, HF.out, grown_set _ _ _ _⟩
    · have hd : ((a : Int) % 8 != 0) = true := by simp; omega
      have hf2 := HP.out (by omega) (by omega) a ha (by omega)
      obtain ⟨ad, hA, hcell⟩ := readsB_cell HR.out a (by rw [HL.out]; omega)
      subst hA
      rw [hf2] at hcell
      have i1 : (a : Int) < 8 * (bs.length : Int) := by omega
      have i2 : a < 8 * bs.length := by omega
      clear hf2
      go_wp2
      go_roundg (8 * ((t + 7) / 8) - (a + 1))
      case measure => have := HK.out; omega
      case rel => exact ⟨a + 1, by omega, by omega, rfl, by go_num, rfl⟩
set_option maxHeartbeats 1000000 in
theorem qpad_no {A : Option Addr} {c : Nat} (g : Nat) (bs : List Int) (t : Nat) (w : World) (h : IsQ A c w g (bitsOf bs) t) (ht : t ≤ 8 * bs.length) (hok : ∀ x, x ∈ bs → 0 ≤ x ∧ x ≤ 255) (hp : padOk bs t = false) :
    Calls Try.prog 11 #[.pointer (some ⟨g, 0, none⟩)] w fun e w' => e = .returned (.bool false) ∧ IsQ A c w' g (bitsOf bs) t ∧ w.grownBy w' (some g) := by
  have HI := Lib.hid h
  have HL := Lib.hid (bitsOf_len bs)
  have h8t : ¬ t % 8 = 0 := by intro e; simp [padOk, e] at hp
  have htl : t < 8 * bs.length := by omega
  have HP := Lib.hid (show ¬ ∀ j, t ≤ j → j < 8 * (t / 8 + 1) → (bitsOf bs).getD j false = false from fun hall => by rw [(padOk_iff bs t hok h8t htl).2 hall] at hp; cases hp)
  obtain ⟨hb, hc, hr⟩ := h
  have hm : (bitsOf bs).length ≤ 9223372036854775807 := hr.2.1
  rw [bitsOf_len] at hm
  have h0 := blk_cell hb 0
  have h1 := blk_cell hb 1
  simp at h0 h1
  rw [HL.out] at h0
  have HR := Lib.hid hr
  clear hb hr hc hp hok
  go_enter Try.func11, Try.ntmps11
  go_wp2
  go_loopg [3] (8 * (t / 8 + 1) - t) (fun k q wr => ∃ a : Nat, t ≤ a ∧ a ≤ 8 * (t / 8 + 1) ∧ k = 8 * (t / 8 + 1) - a ∧ q = .int .i64 a ∧ (∀ j, t ≤ j → j < a → (bitsOf bs).getD j false = false) ∧ wr = w)
  case atStart => exact ⟨t, by omega, by omega, rfl, rfl, by omega, rfl⟩
  case round =>
    obtain ⟨a, ha, ha2, hk, rfl, hall, rfl⟩ := hrel
    have HK := Lib.hid hk
    have HALL := Lib.hid hall
    clear hk hall
    have h8 : ¬ a % 8 = 0 := by
      intro e
      obtain rfl : a = 8 * (t / 8 + 1) := by omega
      exact HP.out HALL.out
    have hd : ((a : Int) % 8 != 0) = true := by simp; omega
    obtain ⟨ad, hA, hcell⟩ := readsB_cell HR.out a (by rw [HL.out]; omega)
    subst hA
    have i1 : (a : Int) < 8 * (bs.length : Int) := by omega
    have i2 : a < 8 * bs.length := by omega
    cases hX : (bitsOf bs).getD a false
    · rw [hX] at hcell
      have HX := Lib.hid hX
      clear hX
      go_wp2
      go_roundg (8 * (t / 8 + 1) - (a + 1))
      case measure => have := HK.out; omega
      case rel =>
        refine ⟨a + 1, by omega, by omega, rfl, by go_num, fun j hj hj2 => ?_, rfl⟩
        rcases Nat.lt_or_ge j a with h | h
        · exact HALL.out j hj h
        · obtain rfl : j = a := by omega
          exact HX.out
    · rw [hX] at hcell
      clear hX
      go_wp2
      go_ret
      exact ⟨rfl, HI.out, World.grownBy.refl _ _⟩
set_option maxHeartbeats 1000000 in
theorem qrest_any {A : Option Addr} {c : Nat} (g : Nat) (bs : List Int) (t : Nat) (w : World) (h : IsQ A c w g (bitsOf bs) t) (ht : t ≤ 8 * bs.length) (hok : ∀ x, x ∈ bs → 0 ≤ x ∧ x ≤ 255) (hm : bs.length ≤ 100000000000) :
    Calls Try.prog 18 #[.pointer (some ⟨g, 0, none⟩)] w fun e w' => ∃ v, e = .returned v ∧ w'.ownsRow w.heap.size 5 1 v (bs.length - (t + 7) / 8) (nums .u8 (bs.drop ((t + 7) / 8))) ∧ Below w.heap.size w w' := by
  have HL := Lib.hid (bitsOf_len bs)
  obtain ⟨K, hK⟩ : ∃ K, (t + 7) / 8 = K := ⟨_, rfl⟩
  have HBD := Lib.hid (bytes_drop bs hok K)
  obtain ⟨hb, hc, hr⟩ := h
  have h0 := blk_cell hb 0
  have h1 := blk_cell hb 1
  simp at h0 h1
  obtain ⟨i, hi1, hi2⟩ := info_bool'
  obtain ⟨A', hsl, hrd, hle⟩ := print_drop_of (P := Try.prog) Value.bool false 48 4 .i64 Try.underlying48 hi1 hi2 A c (bitsOf bs) ((8 * K : Nat) : Int) (by omega) (by rw [HL.out]; omega) hc
  rw [Int.toNat_natCast] at hsl hrd
  have hl : ((bitsOf bs).drop (8 * K)).length = 8 * bs.length - 8 * K := by rw [List.length_drop, HL.out]
  have hl2 : (8 * bs.length - 8 * K + 7) / 8 = bs.length - K := by omega
  rw [hl] at hsl hrd
  rw [HL.out] at hsl h0
  have HN := Lib.hid (fun W (hW : ReadsB W A (bitsOf bs).length (bitsOf bs)) => bytes_any A' (8 * bs.length - 8 * K) ((bitsOf bs).drop (8 * K)) (c - 8 * K) W hl (hrd W hW) (by omega))
  rw [hl2, HBD.out] at HN
  have HR := Lib.hid hr
  rw [hK]
  have HKK := Lib.hid hK
  have hb1 : (bs.length : Int) ≤ 100000000000 := by omega
  clear hb hr hi1 hi2 hrd hle hl hl2 hc hK
  go_enter Try.func18, Try.ntmps18
  go_wp2
  go_loopg [3] (8 * K - t) (fun k q wr => ∃ a : Nat, t ≤ a ∧ a ≤ 8 * K ∧ k = 8 * K - a ∧ q = .int .i64 a ∧ wr = w)
  case atStart => exact ⟨t, by omega, by have := HKK.out; omega, rfl, rfl, rfl⟩
  case round =>
    obtain ⟨a, ha, ha2, hk, rfl, rfl⟩ := hrel
    have HK := Lib.hid hk
    clear hk
    by_cases h8 : a % 8 = 0
    · have hd : ((a : Int) % 8 != 0) = false := by simp; omega
      obtain rfl : a = 8 * K := by have := HKK.out; omega
      have z0 : 0 ≤ ((8 * K : Nat) : Int) := by omega
      have z1 : ((8 * K : Nat) : Int) ≤ 8 * (bs.length : Int) := by have := HKK.out; omega
      generalize ((8 * K : Nat) : Int) = Z at hd hsl z0 z1 ⊢
      go_wp2_with (go_at_call 26; (with_reducible refine (HN.out _ HR.out).mono ?_); rintro e w1 ⟨v, rfl, ho, hb⟩; have HO := Lib.hid ho; have HB := Lib.hid hb; clear ho hb)
      go_ret
      exact ⟨_, rfl, HO.out, HB.out⟩
    · have hd : ((a : Int) % 8 != 0) = true := by simp; omega
      have z2 : (a : Int) ≤ 8 * (bs.length : Int) := by have := HKK.out; omega
      go_wp2
      go_roundg (8 * K - (a + 1))
      case measure => have := HK.out; have := HKK.out; omega
      case rel => exact ⟨a + 1, by omega, by omega, rfl, by go_num, rfl⟩
end Go.Proofs.Ytfdijffecgdjbaa
