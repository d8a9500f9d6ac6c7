/- Contracts of the layer bitf (a reader of bits from the front), of slices.Clone on bytes; where a reader's bytes lie is told. -/
import Derived.Test.YtmmfkmkhflieeaaBp
import Derived.Test.YtmmfkmkhflieeaaBase
import Derived.Test.YtmmfkmkhflieeaaProg
import Derived.KernelRfl
import Derived.BigQuiet
import Derived.Deep.QuietTactic
import Derived.StillTailTactics
import Derived.Deep.DeepMust
import Derived.WalkLawsBesides
import Derived.Deep.RegionWith
import Derived.Laws.BitsLemmas
namespace Go.Proofs.Ytmmfkmkhflieeaa
open Go.RowKit Go.Proofs.YtmmfkmkhflieeaaW.PrintWords Go.Proofs.YtmmfkmkhflieeaaW.PrintLast Go.Proofs.YtmmfkmkhflieeaaW.PrintMore
attribute [local go_sem] max2_int min2_int max_two min_two max_three min_three max_four min_four
set_option linter.unusedSimpArgs false
set_option linter.unusedVariables false
theorem info_u8 : (Try.prog.info? 5).map (fun i => (i.zero, i.size, i.bytes)) = some (some (.int .u8 0), 1, 1) := by kernel_rfl
theorem wraps_u32 (n : Int) (h₀ : 0 ≤ n) (h₁ : n < 2 ^ 32) : IntKind.u32.wrap n = n := by rw [IntKind.wrap_u32]; omega
theorem or_low (v b : Int) (i : Nat) (hi : i < 24) (hv0 : 0 ≤ v) (hv : v < pw i) (hb : 0 ≤ b ∧ b ≤ 1) : bits .or .u32 v (b * 2 ^ i % 4294967296) = v + b * pw i := by
  obtain ⟨a, rfl⟩ := Int.eq_ofNat_of_zero_le hv0
  obtain ⟨c, rfl⟩ := Int.eq_ofNat_of_zero_le hb.1
  have hp : pw i ≤ pw 23 := pw_mono (by omega)
  have h23 : pw 23 = 8388608 := by decide
  have ha : a < 2 ^ i := by unfold pw at hv; omega
  have hc : c ≤ 1 := by omega
  have hcp : 0 ≤ (c : Int) * pw i ∧ (c : Int) * pw i ≤ 8388608 := by
    rcases Nat.le_one_iff_eq_zero_or_eq_one.1 hc with rfl | rfl
    · simp
    · have := pw_pos i; simp; omega
  rw [pow_pw, Int.emod_eq_of_lt hcp.1 (by omega)]
  have e1 : (c : Int) * pw i = ((2 ^ i * c : Nat) : Int) := by unfold pw; rw [Int.natCast_mul, Int.mul_comm]
  rw [e1]
  have hm : 2 ^ i * c < 2 ^ 32 := by have e32 : (2:Nat) ^ 32 = 4294967296 := by decide
                                     omega
  have ha' : a < 2 ^ 32 := by have e32 : (2:Nat) ^ 32 = 4294967296 := by decide
                              unfold pw at hv hp; omega
  rw [(bits_nat .u32 32 (by decide) wraps_u32 a (2 ^ i * c) ha' hm).2, Nat.or_comm, ← Nat.two_pow_add_eq_or_of_lt ha c]
  omega
theorem and_one (x : Int) (h0 : 0 ≤ x) (h1 : x ≤ 255) : bits .and .u8 x 1 = x % 2 := bits_mask .u8 8 (by decide) wraps_u8 1 (by decide) x h0 (by omega)
theorem bit_term (bs : List Int) (k : Nat) (h : 0 ≤ bs.getD (k / 8) 0 ∧ bs.getD (k / 8) 0 ≤ 255) : bits .and .u8 (bs[k / 8]?.getD 0 / 2 ^ (k % 8)) 1 % 4294967296 = bitAt bs k := by
  rw [List.getD_eq_getElem?_getD] at h
  have hp : (1 : Int) ≤ 2 ^ (k % 8) := by rw [pow_pw]; exact pw_pos _
  have h0 : 0 ≤ bs[k / 8]?.getD 0 / 2 ^ (k % 8) := Int.ediv_nonneg h.1 (by omega)
  have h1 : bs[k / 8]?.getD 0 / 2 ^ (k % 8) ≤ 255 := Int.le_trans (Int.ediv_le_self _ h.1) h.2
  rw [and_one _ h0 h1]
  unfold bitAt
  rw [List.getD_eq_getElem?_getD]
  omega
/-- what is read stays where a block with none of its values has turned -/
theorem readsOf_grown {α : Type} {enc : α → Value} {d : α} {w w1 : World} {A : Option Addr} {n g : Nat} {l : List α} (h : ReadsOf enc d w A n l) (hg : w.grownBy w1 (some g)) (hne : ∀ o x, w.cell? ⟨g, o, none⟩ ≠ some (enc x)) : ReadsOf enc d w1 A n l := by
  refine ⟨h.1, h.2.1, fun hn => ?_⟩
  obtain ⟨ad, rfl, hc⟩ := h.2.2 hn
  refine ⟨ad, rfl, fun j hj => ?_⟩
  have hc' := hc j hj
  rw [World.cell?_of_block (w := w) (hg.block _ (World.block_lt_of_cell? w _ hc') ?_)]
  · exact hc'
  · intro e
    have e' : (ad.add j).block = g := by injection e
    have hsp : (ad.add j).spot = none := by
      rcases hh : (ad.add j).spot with _ | s
      · rfl
      · simp only [World.cell?] at hc'; split at hc' <;> simp [hh] at hc'
    have : ad.add j = ⟨g, (ad.add j).off, none⟩ := by
      rcases hA : ad.add j with ⟨b, o, s⟩
      rw [hA] at e' hsp; simp at e' hsp; subst e' hsp; rfl
    rw [this] at hc'
    exact hne _ _ hc'
theorem reads_grown {w w1 : World} {k : IntKind} {A : Option Addr} {n g : Nat} {l : List Int} (h : ReadsInt w k A n l) (hg : w.grownBy w1 (some g)) (hne : ∀ o x, w.cell? ⟨g, o, none⟩ ≠ some (.int k x)) : ReadsInt w1 k A n l :=
  readsInt_of.2 (readsOf_grown (readsInt_of.1 h) hg hne)
/-- where an own row lies -/
theorem own_from {w : World} {base n m c : Nat} {e : TypeId} {s : Nat} {A : Option Addr} {xs : List Value} (h : w.ownsRow base e s (.slice A n c) m xs) : ∀ ad, A = some ad → base ≤ ad.block := by
  intro ad e1
  subst e1
  rcases h.2 with ⟨e2, _⟩ | ⟨g, cap, cur, e2, hb, _⟩
  · cases e2
  · injection e2 with e3 _ _
    cases e3
    exact hb
/-- a reader: its bytes, and which bit is next -/
def IsR (A : Option Addr) (c : Nat) (w : World) (g : Nat) (bs : List Int) (t : Nat) : Prop :=
  w.heap[g]? = some (.cells #[.slice A bs.length c, .int .i64 (t : Int)] 66 (0, 0)) ∧ bs.length ≤ c ∧ ReadsInt w .u8 A bs.length bs
theorem IsR.noU8 {A : Option Addr} {c : Nat} {w : World} {g : Nat} {bs : List Int} {t : Nat} (h : IsR A c w g bs t) : ∀ o x, w.cell? ⟨g, o, none⟩ ≠ some (.int .u8 x) := by
  obtain ⟨hb, _, _⟩ := h
  intro o x e
  rw [blk_cell hb] at e
  rcases o with _ | _ | o <;> simp at e
theorem IsR.lt {A : Option Addr} {c : Nat} {w : World} {g : Nat} {bs : List Int} {t : Nat} (h : IsR A c w g bs t) : g < w.heap.size := by
  obtain ⟨hb, _, _⟩ := h; exact blk_lt hb
theorem IsR.grown {A : Option Addr} {c : Nat} {w w1 : World} {g g1 : Nat} {bs : List Int} {t : Nat} (h : IsR A c w g bs t) (hg : w.grownBy w1 (some g1)) (hne : g ≠ g1) (hno : ∀ o x, w.cell? ⟨g1, o, none⟩ ≠ some (.int .u8 x)) : IsR A c w1 g bs t := by
  obtain ⟨hb, hc, hr⟩ := h
  exact ⟨blk_grown hb hg (by simpa using hne), hc, reads_grown hr hg hno⟩
theorem IsR.below {A : Option Addr} {c : Nat} {w w1 : World} {g : Nat} {bs : List Int} {t : Nat} (h : IsR A c w g bs t) (hb1 : Below w.heap.size w w1) : IsR A c w1 g bs t := by
  obtain ⟨hb, hc, hr⟩ := h
  exact ⟨blk_below hb hb1, hc, hr.below hb1⟩
theorem IsR.set {A : Option Addr} {c : Nat} {w : World} {g : Nat} {bs : List Int} {t : Nat} (h : IsR A c w g bs t) (u : Nat) : IsR A c (w.setCell ⟨g, 1, none⟩ (.int .i64 (u : Int))) g bs u := by
  have hno := h.noU8
  obtain ⟨hb, hc, hr⟩ := h
  refine ⟨by simpa using blk_set hb 1 (.int .i64 (u : Int)), hc, reads_grown hr (grown_set w g 1 _) hno⟩
theorem below_drewN' {B : Nat} {w w1 : World} (h : Below B w w1) (n : Nat) : Below B w (w1.drewN n) := pw_below_drewN h n
theorem grown_drew {w w1 : World} {row : Option Nat} (h : w.grownBy w1 row) : w.grownBy w1.drew row := ⟨h.os, h.tape, h.output, h.size, h.block⟩
theorem grown_drewN {w w1 : World} {row : Option Nat} (h : w.grownBy w1 row) (n : Nat) : w.grownBy (w1.drewN n) row := ⟨h.os, h.tape, h.output, h.size, h.block⟩
theorem eql_nil (W : World) : Sem.run Try.prog (binOp BinOp.eql 31 (.slice none 0 0) (.slice none 0 0)) W = .ok (.bool true) W := by kernel_rfl
theorem eql_some (ad : Addr) (n c : Nat) (W : World) : Sem.run Try.prog (binOp BinOp.eql 31 (.slice (some ad) n c) (.slice none 0 0)) W = .ok (.bool false) W := by kernel_rfl
theorem clone_nil (w : World) : Calls Try.prog 36 #[.slice none 0 0] w fun e w' => e = .returned (.slice none 0 0) ∧ w = w' := by
  have hq := eql_nil
  go_enter Try.func36, Try.ntmps36
  go_wp2
  go_ret
  exact ⟨rfl, rfl⟩
set_option maxHeartbeats 400000 in
theorem clone_some (ad : Addr) (n : Nat) (l : List Int) (c : Nat) (w : World) (hn : l.length = n) (hr : ReadsInt w .u8 (some ad) n l) (hm : n ≤ 140737488351232) :
    Calls Try.prog 36 #[.slice (some ad) n c] w fun e w' => ∃ v, e = .returned v ∧ w'.ownsRow w.heap.size 5 1 v n (nums .u8 l) ∧ Below w.heap.size w w' := by
  have HR := Lib.hid hr
  have HN := Lib.hid hn
  have hq := eql_some ad n c
  clear hr hn
  go_enter Try.func36, Try.ntmps36
  go_wp2_with (at_builtin; refine print_append_row (w0 := w) w.heap.size rfl (.tmp 5) (.tmp 6) 31 5 .u8 1 rfl Try.underlying31 info_u8 (by omega) _ [] l _ _ _ rfl rfl (own_lit _ w.heap.size 5 .u8 [] (Nat.le_refl _) (by simp)) (HR.out.below ((Below.refl _ _).alloc (Nat.le_refl _) _)) ((Below.refl _ _).alloc (Nat.le_refl _) _) (by simp) (by simp; omega) ?_; intro va wa oa ba hx1 hx2; clear hx1 hx2; rw [List.nil_append, HN.out] at oa)
  go_ret
  exact ⟨_, rfl, oa, ba⟩
/-- of any slice that reads: its own copy -/
theorem clone_any (A : Option Addr) (n : Nat) (l : List Int) (c : Nat) (w : World) (hn : l.length = n) (hr : ReadsInt w .u8 A n l) (hm : n ≤ 140737488351232) (hnil : A = none → c = 0) :
    Calls Try.prog 36 #[.slice A n c] w fun e w' => ∃ v, e = .returned v ∧ w'.ownsRow w.heap.size 5 1 v n (nums .u8 l) ∧ Below w.heap.size w w' := by
  cases A with
  | some ad => exact clone_some ad n l c w hn hr hm
  | none =>
    obtain rfl := hnil rfl
    have h0 : n = 0 := by
      rcases Nat.eq_zero_or_pos n with h | h
      · exact h
      · obtain ⟨ad, e, _⟩ := hr.2.2 h; cases e
    subst h0
    obtain rfl : l = [] := List.eq_nil_of_length_eq_zero hn
    refine (clone_nil w).mono ?_
    rintro e w' ⟨rfl, rfl⟩
    exact ⟨_, rfl, own_nil _ _ _ _, Below.refl _ _⟩
set_option maxHeartbeats 400000 in
theorem bnew_any (A : Option Addr) (n : Nat) (l : List Int) (c : Nat) (w : World) (hn : l.length = n) (hr : ReadsInt w .u8 A n l) (hm : n ≤ 140737488351232) (hnil : A = none → c = 0) :
    Calls Try.prog 17 #[.slice A n c] w fun e w' => ∃ g A1 c1, e = .returned (.pointer (some ⟨g, 0, none⟩)) ∧ w.heap.size ≤ g ∧ IsR A1 c1 w' g l 0 ∧ (∀ ad, A1 = some ad → w.heap.size ≤ ad.block) ∧ Below w.heap.size w w' := by
  have HC := Lib.hid (clone_any A n l c w hn hr hm hnil)
  subst hn
  clear hr hnil
  go_enter Try.func17, Try.ntmps17
  go_wp2_with (go_at_call 36; (with_reducible refine HC.out.mono ?_); rintro e w1 ⟨v, rfl, ho, hb⟩; obtain ⟨A1, c1, rfl, hle, hr⟩ := own_reads' ho; have HR := Lib.hid hr; have HB := Lib.hid hb; have HG := Lib.hid (own_from ho); clear ho hb hr)
  go_ret
  exact ⟨_, _, _, rfl, HB.out.size, ⟨heap_alloc_new w1 _, hle, HR.out.below ((Below.refl _ _).alloc (Nat.le_refl _) _)⟩, HG.out, HB.out.alloc HB.out.size _⟩
set_option maxHeartbeats 400000 in
theorem bleft_any {A : Option Addr} {c : Nat} (g : Nat) (bs : List Int) (t : Nat) (w : World) (h : IsR A c w g bs t) (ht : t ≤ 8 * bs.length) (hm : bs.length ≤ 140737488351232) :
    Calls Try.prog 22 #[.pointer (some ⟨g, 0, none⟩)] w fun e w' => e = .returned (.int .i64 (8 * (bs.length : Int) - t)) ∧ ∃ nq, w' = w.drewN nq := by
  obtain ⟨hb, _, hr⟩ := h
  have h0 := blk_cell hb 0
  have h1 := blk_cell hb 1
  simp at h0 h1
  clear hb hr
  go_enter Try.func22, Try.ntmps22
  go_wp2
  go_quiet (fail)
  go_wp2
  go_ret
  exact ⟨rfl, _, rfl⟩
set_option maxHeartbeats 1000000 in
theorem btake_ok {A : Option Addr} {c : Nat} (g : Nat) (bs : List Int) (t n : Nat) (w : World) (h : IsR A c w g bs t) (ht : t + n ≤ 8 * bs.length) (hn : n ≤ 24) (hm : bs.length ≤ 140737488351232) (hok : ∀ x, x ∈ bs → 0 ≤ x ∧ x ≤ 255) :
    Calls Try.prog 67 #[.pointer (some ⟨g, 0, none⟩), .int .i64 (n : Int)] w fun e w' => e = .returned (.tuple #[.int .u32 (numAt bs t n), .bool true]) ∧ IsR A c w' g bs (t + n) ∧ w.grownBy w' (some g) := by
  have HI := Lib.hid h
  have HOK := Lib.hid hok
  clear h hok
  go_enter Try.func67, Try.ntmps67
  go_wp2_with (go_at_call 22; (with_reducible refine (bleft_any g bs t _ HI.out (by omega) hm).mono ?_); rintro e w1 ⟨rfl, nq, rfl⟩)
  go_loopg [6, 21] n (fun k v q wr => ∃ i : Nat, i ≤ n ∧ k = n - i ∧ q = .int .i64 i ∧ v = .int .u32 (numAt bs t i) ∧ IsR A c wr g bs (t + i) ∧ w.grownBy wr (some g))
  case atStart => exact ⟨0, by omega, by omega, rfl, rfl, HI.out, grown_drewN (World.grownBy.refl w _) _⟩
  case round =>
    obtain ⟨i, hi, hk, rfl, rfl, hI, hG⟩ := hrel
    have HK := Lib.hid hk
    have HG := Lib.hid hG
    have HI2 := Lib.hid hI
    clear hk hG
    obtain ⟨hb, hc, hr⟩ := hI
    have h0 := blk_cell hb 0
    have h1 := blk_cell hb 1
    have hf := blk_frozen hb 1
    simp at h0 h1
    have HR := Lib.hid hr
    clear hb hr HI hc
    by_cases hlt : i < n
    · obtain ⟨ad, hA, hcell⟩ := reads_cell HR.out ((t + i) / 8) (by omega)
      subst hA
      have hbd := HOK.out _ (by
        show bs.getD ((t + i) / 8) 0 ∈ bs
        have : (t + i) / 8 < bs.length := by omega
        simp [List.getD_eq_getElem?_getD, List.getElem?_eq_getElem this])
      have hnb := numAt_bd bs t i
      have HT := Lib.hid (bit_term bs (t + i) hbd)
      have HOR := Lib.hid (or_low (numAt bs t i) (bitAt bs (t + i)) i (by omega) hnb.1 hnb.2 (bitAt_bd bs (t + i)))
      have HS := Lib.hid (numAt_succ bs t i (by omega))
      clear hnb
      go_wp2
      go_quiet (fail)
      go_wp2
      go_roundg (n - (i + 1))
      case measure => have := HK.out; omega
      case rel =>
        refine ⟨i + 1, by omega, rfl, by go_num, ?_, ?_, ?_⟩
        · rw [HT.out, HOR.out, HS.out]
        · exact (IsR.below HI2.out (below_drewN' (Below.refl _ _) _)).set (t + i + 1)
        · exact grown_drewN (HG.out.trans (grown_set _ _ _ _)) _
    · obtain rfl : i = n := by omega
      go_wp2
      go_ret2
      exact ⟨rfl, HI2.out, HG.out⟩
set_option maxHeartbeats 1000000 in
theorem btake_no {A : Option Addr} {c : Nat} (g : Nat) (bs : List Int) (t : Nat) (n : Int) (w : World) (h : IsR A c w g bs t) (ht : t ≤ 8 * bs.length) (hm : bs.length ≤ 140737488351232) (hn : n < 0 ∨ (0 ≤ n ∧ (24 < n ∨ (n ≤ 24 ∧ 8 * (bs.length : Int) - t < n)))) :
    Calls Try.prog 67 #[.pointer (some ⟨g, 0, none⟩), .int .i64 n] w fun e w' => e = .returned (.tuple #[.int .u32 0, .bool false]) ∧ IsR A c w' g bs t ∧ w.grownBy w' (some g) := by
  have HI := Lib.hid h
  clear h
  rcases hn with hn | ⟨h0, hn | ⟨h1, hn⟩⟩
  all_goals
    go_enter Try.func67, Try.ntmps67
    go_wp2_with (go_at_call 22; (with_reducible refine (bleft_any g bs t _ HI.out (by omega) hm).mono ?_); rintro e w1 ⟨rfl, nq, rfl⟩)
    go_ret2
    first
      | exact ⟨rfl, HI.out, World.grownBy.refl _ _⟩
      | exact ⟨rfl, HI.out.below (below_drewN' (Below.refl _ _) _), grown_drewN (World.grownBy.refl _ _) _⟩
set_option maxHeartbeats 400000 in
theorem begun_any {A : Option Addr} {c : Nat} (g : Nat) (bs : List Int) (t : Nat) (w : World) (h : IsR A c w g bs t) (ht : t ≤ 8 * bs.length) (hm : bs.length ≤ 140737488351232) :
    Calls Try.prog 46 #[.pointer (some ⟨g, 0, none⟩)] w fun e w' => e = .returned (.int .i64 (((t + 7) / 8 : Nat) : Int)) ∧ w' = w := by
  obtain ⟨hb, _, hr⟩ := h
  have h1 := blk_cell hb 1
  simp at h1
  clear hb hr
  go_enter Try.func46, Try.ntmps46
  go_wp2
  go_ret
  exact ⟨ret_int (by show (_ : Int) = _; omega), rfl⟩
/-- is the rest of the byte 0 -/
def padOk (bs : List Int) (t : Nat) : Bool := decide (t % 8 = 0) || decide (bs.getD (t / 8) 0 / 2 ^ (t % 8) = 0)
set_option maxHeartbeats 1000000 in
theorem bpad_yes {A : Option Addr} {c : Nat} (g : Nat) (bs : List Int) (t : Nat) (w : World) (h : IsR A c w g bs t) (ht : t ≤ 8 * bs.length) (hm : bs.length ≤ 140737488351232) (hp : padOk bs t = true) :
    Calls Try.prog 27 #[.pointer (some ⟨g, 0, none⟩)] w fun e w' => e = .returned (.bool true) ∧ IsR A c w' g bs (8 * ((t + 7) / 8)) ∧ w.grownBy w' (some g) := by
  have HI := Lib.hid h
  obtain ⟨hb, hc, hr⟩ := h
  have h0 := blk_cell hb 0
  have h1 := blk_cell hb 1
  have hf := blk_frozen hb 1
  simp at h0 h1
  have HR := Lib.hid hr
  clear hb hr hc
  have E8 : ((8 * ((t + 7) / 8) : Nat) : Int) = 8 * (((t : Int) + 7) / 8) := by omega
  replace E8 := Lib.hid E8
  by_cases h8 : t % 8 = 0
  · have hd : ((t : Int) % 8 != 0) = false := by simp; omega
    clear hp
    go_enter Try.func27, Try.ntmps27
    go_wp2
    go_quiet (fail)
    go_wp2_with (go_at_call 46; (with_reducible refine (begun_any g bs t _ (HI.out.below (below_drewN' (Below.refl _ _) _)) ht hm).mono ?_); rintro e w1 ⟨rfl, rfl⟩)
    go_ret
    exact ⟨rfl, by rw [← E8.out]; exact (HI.out.below (below_drewN' (Below.refl _ _) _)).set _, (grown_drewN (World.grownBy.refl _ _) _).trans (grown_set _ _ _ _)⟩
  · have hd : ((t : Int) % 8 != 0) = true := by simp; omega
    have hp2 : bs.getD (t / 8) 0 / 2 ^ (t % 8) = 0 := by simpa [padOk, h8] using hp
    have htl : t < 8 * bs.length := by omega
    obtain ⟨ad, hA, hcell⟩ := reads_cell HR.out (t / 8) (by omega)
    subst hA
    have hz : (bs[t / 8]?.getD 0 / 2 ^ (t % 8) != 0) = false := by rw [← List.getD_eq_getElem?_getD, hp2]; rfl
    have hbd : (t : Int) / 8 < (bs.length : Int) := by omega
    clear hp hp2
    go_enter Try.func27, Try.ntmps27
    go_wp2
    go_quiet (fail)
    go_wp2_with (go_at_call 46; (with_reducible refine (begun_any g bs t _ (HI.out.below (below_drewN' (Below.refl _ _) _)) ht hm).mono ?_); rintro e w1 ⟨rfl, rfl⟩)
    go_ret
    exact ⟨rfl, by rw [← E8.out]; exact (HI.out.below (below_drewN' (Below.refl _ _) _)).set _, (grown_drewN (World.grownBy.refl _ _) _).trans (grown_set _ _ _ _)⟩
set_option maxHeartbeats 1000000 in
theorem bpad_no {A : Option Addr} {c : Nat} (g : Nat) (bs : List Int) (t : Nat) (w : World) (h : IsR A c w g bs t) (ht : t ≤ 8 * bs.length) (hm : bs.length ≤ 140737488351232) (hp : padOk bs t = false) :
    Calls Try.prog 27 #[.pointer (some ⟨g, 0, none⟩)] w fun e w' => e = .returned (.bool false) ∧ IsR A c w' g bs t ∧ w.grownBy w' (some g) := by
  have HI := Lib.hid h
  obtain ⟨hb, hc, hr⟩ := h
  have h0 := blk_cell hb 0
  have h1 := blk_cell hb 1
  simp at h0 h1
  have HR := Lib.hid hr
  clear hb hr hc
  have hp0 : ¬ t % 8 = 0 ∧ ¬ bs.getD (t / 8) 0 / 2 ^ (t % 8) = 0 := by simpa [padOk] using hp
  obtain ⟨h8, hp2⟩ := hp0
  have hd : ((t : Int) % 8 != 0) = true := by simp; omega
  have htl : t < 8 * bs.length := by omega
  obtain ⟨ad, hA, hcell⟩ := reads_cell HR.out (t / 8) (by omega)
  subst hA
  have hz : (bs[t / 8]?.getD 0 / 2 ^ (t % 8) != 0) = true := by rw [← List.getD_eq_getElem?_getD]; simpa using hp2
  have hbd : (t : Int) / 8 < (bs.length : Int) := by omega
  clear hp hp2
  go_enter Try.func27, Try.ntmps27
  go_wp2
  go_quiet (fail)
  go_wp2
  go_ret
  exact ⟨rfl, HI.out.below (below_drewN' (Below.refl _ _) _), grown_drewN (World.grownBy.refl _ _) _⟩
/-- 'xs[k:n:n]', n the length -/
theorem slice_full (A : Option Addr) (n c k : Nat) (hk : k ≤ n) (hc : n ≤ c) (W : World) :
    Sem.run Try.prog (Instr.slice 31 (.slice A n c) (some (.int .i64 (k : Int))) (some (.int .i64 (n : Int))) (some (.int .i64 (n : Int)))) W = .ok (.slice (if n = k then A else A.map (·.add k)) (n - k) (n - k)) W := by
  have h1 : (k : Int) ≤ (n : Int) := by omega
  have h2 : (n : Int) ≤ (c : Int) := by omega
  have h3 : 0 ≤ (k : Int) := by omega
  simp [go_sem, Instr.slice, h1, h2, h3, hk, hc]
set_option maxHeartbeats 1000000 in
theorem brest_any {A : Option Addr} {c : Nat} (g : Nat) (bs : List Int) (t : Nat) (w : World) (h : IsR A c w g bs t) (ht : t ≤ 8 * bs.length) (hm : bs.length ≤ 140737488351232) :
    Calls Try.prog 28 #[.pointer (some ⟨g, 0, none⟩)] w fun e w' => ∃ v, e = .returned v ∧ w'.ownsRow w.heap.size 5 1 v (bs.length - (t + 7) / 8) (nums .u8 (bs.drop ((t + 7) / 8))) ∧ Below w.heap.size w w' := by
  have HI := Lib.hid h
  obtain ⟨hb, hc, hr⟩ := h
  have h0 := blk_cell hb 0
  have h1 := blk_cell hb 1
  simp at h0 h1
  have HBG := Lib.hid (begun_any (A := A) (c := c) g bs t)
  obtain ⟨k, hk⟩ : ∃ k, (t + 7) / 8 = k := ⟨_, rfl⟩
  have hkn : k ≤ bs.length := by omega
  rw [hk] at HBG ⊢
  have hsl := slice_full A bs.length c k hkn hc
  have hd := hr.drop_ k hkn (Nat.le_refl _)
  have hnil : (if bs.length = k then A else A.map (·.add k)) = none → bs.length - k = 0 := by
    intro e
    have hA : A = none := by
      split at e
      · exact e
      · simpa using e
    subst hA
    rcases Nat.eq_zero_or_pos bs.length with h | h
    · omega
    · obtain ⟨ad, e, _⟩ := hr.2.2 h; cases e
  clear hk hr hb
  generalize (if bs.length = k then A else A.map (·.add k)) = A' at hsl hd hnil
  have HD := Lib.hid hd
  have HN := Lib.hid hnil
  have HL := Lib.hid (show (bs.drop k).length = bs.length - k from List.length_drop)
  clear hd hnil
  go_enter Try.func28, Try.ntmps28
  go_wp2
  go_region_with (first
    | (go_at_call 46; (with_reducible refine (HBG.out _ (HI.out.below ((Below.refl _ _).drew)) ht hm).mono ?_); rintro e w1 ⟨rfl, rfl⟩)
    | (go_at_call 36; (with_reducible refine (clone_any _ _ (bs.drop k) _ _ HL.out (HD.out.below ((Below.refl _ _).drew)) (by omega) HN.out).mono ?_); rintro e w1 ⟨v, rfl, ho, hb⟩; have HO := Lib.hid ho; have HB := Lib.hid hb; clear ho hb))
  all_goals go_wp2
  all_goals go_ret
  all_goals exact ⟨_, rfl, HO.out, below_then' (Below.refl _ _).drew HB.out⟩
end Go.Proofs.Ytmmfkmkhflieeaa
