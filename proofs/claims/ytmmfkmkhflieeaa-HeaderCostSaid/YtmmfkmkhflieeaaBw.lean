/- Contracts of the layer bitw: a writer of bits, as an object. -/
import Derived.Test.YtmmfkmkhflieeaaSp
import Derived.Deep.Cut
namespace Go.Proofs.Ytmmfkmkhflieeaa
open Go.RowKit Go.Proofs.YtmmfkmkhflieeaaW.PrintWords Go.Proofs.YtmmfkmkhflieeaaW.PrintLast Go.Proofs.YtmmfkmkhflieeaaW.PrintMore
attribute [local go_sem] max2_int min2_int max_two min_two max_three min_three max_four min_four
set_option linter.unusedSimpArgs false
set_option linter.unusedVariables false
/-- a writer and its bits, its row told -/
structure IsW (v : Value) (W : World) (g : Nat) (bs : List Bool) : Prop where
  b : W.heap[g]? = some (.cells #[v, .int .i64 (bs.length : Int)] 56 (0, 0))
  o : W.ownsRow 0 5 1 v (bytesOf' bs).length (nums .u8 (bytesOf' bs))
theorem own_ne_blk {W : World} {e s n g tt : Nat} {v : Value} {xs : List Value} {cs : Array Value} (ho : W.ownsRow 0 e s v n xs) (hb : W.heap[g]? = some (.cells cs tt (0, 0))) (ht : tt ≠ e) : some g ≠ v.ownBlock := by
  intro e
  rcases ho.2 with ⟨h1, _⟩ | ⟨b, cap, cur, h1, _, h2, _⟩
  · rw [h1] at e; simp [Value.ownBlock] at e
  · rw [h1] at e
    simp only [Value.ownBlock, Option.some.injEq] at e
    exact blk_ne hb h2 ht e
theorem IsW.ne {v : Value} {W : World} {g : Nat} {bs : List Bool} (h : IsW v W g bs) : some g ≠ v.ownBlock := own_ne_blk h.o h.b (by decide)
def wrF (g : Nat) (v : Value) (k : Nat) : Prop := k = g ∨ v.ownBlock = some k
def wrO (g : Nat) (bs : List Bool) : Ob where
  P W F := ∃ v, IsW v W g bs ∧ F = wrF g v
  loc := by
    rintro W W' F ⟨v, h, rfl⟩ hk
    refine ⟨v, ⟨by rw [hk g (.inl rfl)]; exact h.b, ?_⟩, rfl⟩
    have h0 := (owO 5 1 v (bytesOf' bs).length (nums .u8 (bytesOf' bs))).loc (W := W) (W' := W') ⟨h.o, rfl⟩ (fun k hk' => hk k (.inr hk'))
    exact h0.1
  lt := by
    rintro W F ⟨v, h, rfl⟩ k (rfl | hk)
    · exact blk_lt h.b
    · exact (owO 5 1 v (bytesOf' bs).length (nums .u8 (bytesOf' bs))).lt (W := W) ⟨h.o, rfl⟩ k hk
set_option maxHeartbeats 400000 in
theorem wnew_any (w : World) : Calls Try.prog 9 #[] w fun e w' => ∃ g F, e = .returned (.pointer (some ⟨g, 0, none⟩)) ∧ (wrO g []).P w' F ∧ (∀ k, F k → w.heap.size ≤ k) ∧ Below w.heap.size w w' := by
  go_enter Try.func9, Try.ntmps9
  go_wp2
  go_ret
  refine ⟨_, _, rfl, ⟨.slice none 0 0, ⟨heap_alloc_new w _, own_nil _ _ _ _⟩, rfl⟩, ?_, (Below.refl _ _).alloc (Nat.le_refl _) _⟩
  rintro k (rfl | hk)
  · exact Nat.le_refl _
  · simp [Value.ownBlock] at hk
set_option maxHeartbeats 400000 in
theorem wbits_any (g : Nat) (bs : List Bool) (w : World) (F : Nat → Prop) (h : (wrO g bs).P w F) :
    Calls Try.prog 12 #[.pointer (some ⟨g, 0, none⟩)] w fun e w' => e = .returned (.int .i64 (bs.length : Int)) ∧ w' = w := by
  obtain ⟨v, ⟨hb, ho⟩, rfl⟩ := h
  have h1 := blk_cell hb 1
  simp at h1
  clear hb ho
  go_enter Try.func12, Try.ntmps12
  go_wp2
  go_ret
  exact ⟨rfl, rfl⟩
set_option maxHeartbeats 400000 in
theorem wbytes_any (g : Nat) (bs : List Bool) (w : World) (F : Nat → Prop) (h : (wrO g bs).P w F) (hm : bs.length ≤ 1000000000000) :
    Calls Try.prog 14 #[.pointer (some ⟨g, 0, none⟩)] w fun e w' => ∃ v, e = .returned v ∧ w'.ownsRow w.heap.size 5 1 v (bytesOf' bs).length (nums .u8 (bytesOf' bs)) ∧ Below w.heap.size w w' := by
  obtain ⟨v, ⟨hb, ho⟩, rfl⟩ := h
  have h0 := blk_cell hb 0
  simp at h0
  have hl := bytesOf'_len bs
  obtain ⟨A, c, rfl, hle, hr⟩ := own_reads' ho
  have hnil : A = none → c = 0 := by
    intro e
    subst e
    rcases ho.2 with ⟨e, _⟩ | ⟨b, cap, cur, e, _⟩
    · injection e
    · cases e
  have HC := Lib.hid (clone_any A (bytesOf' bs).length (bytesOf' bs) c w rfl hr (by omega) hnil)
  clear hb ho hr hnil hle hl
  go_enter Try.func14, Try.ntmps14
  go_wp2_with (go_at_call 36; (with_reducible refine HC.out.mono ?_); rintro e w1 ⟨v, rfl, ho, hb⟩; have HO := Lib.hid ho; have HB := Lib.hid hb; clear ho hb)
  go_ret
  exact ⟨_, rfl, HO.out, HB.out⟩
/-! one bit more -/
theorem bytesN_more (bs : List Bool) : bytesN ((bs.length + 1 + 7) / 8) bs = if bs.length % 8 = 0 then bytesOf' bs ++ [0] else bytesOf' bs := by
  by_cases h : bs.length % 8 = 0
  · rw [if_pos h]
    apply ext_getD'
    · rw [bytesN_len, List.length_append, bytesOf'_len]; simp; omega
    · intro k hk
      rw [bytesN_len] at hk
      rw [bytesN_get _ _ _ hk]
      rcases Nat.lt_or_ge k ((bs.length + 7) / 8) with h1 | h1
      · rw [List.getD_eq_getElem?_getD, List.getElem?_append_left (by rw [bytesOf'_len]; exact h1), ← List.getD_eq_getElem?_getD, bytesOf'_get _ _ h1]
      · rw [List.getD_eq_getElem?_getD, List.getElem?_append_right (by rw [bytesOf'_len]; exact h1), bytesOf'_len, show k - (bs.length + 7) / 8 = 0 by omega, List.drop_eq_nil_of_le (by omega)]
        rfl
  · rw [if_neg h, show (bs.length + 1 + 7) / 8 = (bs.length + 7) / 8 by omega, bytesN_all]
theorem or_low8 (v b : Int) (s : Nat) (hs : s < 8) (hv0 : 0 ≤ v) (hv : v < pw s) (hb : b = 0 ∨ b = 1) : bits .or .u8 v (b * 2 ^ s % 256) = v + b * pw s := by
  obtain ⟨a, rfl⟩ := Int.eq_ofNat_of_zero_le hv0
  have hp : pw s ≤ pw 7 := pw_mono (by omega)
  have h7 : pw 7 = 128 := by decide
  have hp0 := pw_pos s
  have ha : a < 2 ^ s := by unfold pw at hv; omega
  have ha8 : a < 2 ^ 8 := by have e : (2:Nat) ^ 8 = 256 := by decide
                             omega
  obtain ⟨c, hc, hc1⟩ : ∃ c : Nat, b = (c : Int) ∧ c ≤ 1 := by rcases hb with rfl | rfl; exact ⟨0, rfl, by omega⟩; exact ⟨1, rfl, by omega⟩
  subst hc
  have hcp : 0 ≤ (c : Int) * pw s ∧ (c : Int) * pw s ≤ 128 := by
    rcases Nat.le_one_iff_eq_zero_or_eq_one.1 hc1 with rfl | rfl
    · simp
    · simp; omega
  rw [pow_pw, Int.emod_eq_of_lt hcp.1 (by omega)]
  have e1 : (c : Int) * pw s = ((2 ^ s * c : Nat) : Int) := by unfold pw; rw [Int.natCast_mul, Int.mul_comm]
  rw [e1]
  have hm : 2 ^ s * c < 2 ^ 8 := by have e : (2:Nat) ^ 8 = 256 := by decide
                                    omega
  rw [(bits_nat .u8 8 (by decide) wraps_u8 a (2 ^ s * c) ha8 hm).2, Nat.or_comm, ← Nat.two_pow_add_eq_or_of_lt ha c]
  omega
theorem and_one32 (x : Int) (h0 : 0 ≤ x) (h1 : x ≤ 4294967295) : bits .and .u32 x 1 = x % 2 := bits_mask .u32 32 (by decide) wraps_u32 1 (by decide) x h0 (by omega)
/-- a writer that has room for a bit more -/
structure Mid (g : Nat) (bs : List Bool) (F : Nat → Prop) (w : World) (A : Option Addr) (c : Nat) (wc : World) : Prop where
  b : wc.heap[g]? = some (.cells #[.slice A ((bs.length + 1 + 7) / 8) c, .int .i64 (bs.length : Int)] 56 (0, 0))
  o : wc.ownsRow 0 5 1 (.slice A ((bs.length + 1 + 7) / 8) c) ((bs.length + 1 + 7) / 8) (nums .u8 (bytesN ((bs.length + 1 + 7) / 8) bs))
  ch : Chg F w wc
  s : ∀ k, wrF g (.slice A ((bs.length + 1 + 7) / 8) c) k → F k ∨ w.heap.size ≤ k
theorem own_far {W : World} {e n g j : Nat} {s : Nat} {v : Value} {xs : List Value} {u : Value} (h : W.ownsRow 0 e s v n xs) (hne : some g ≠ v.ownBlock) : (W.setCell ⟨g, j, none⟩ u).ownsRow 0 e s v n xs :=
  ((owO e s v n xs).loc (W := W) (W' := W.setCell ⟨g, j, none⟩ u) ⟨h, rfl⟩ (fun k hk => Below.heap_setCell W ⟨g, j, none⟩ u k (fun e => hne (by rw [hk]; exact congrArg some e.symm)))).1
theorem chg_set {S : Nat → Prop} {w w1 : World} (h : Chg S w w1) {g j : Nat} {u : Value} (hs : S g ∨ w.heap.size ≤ g) : Chg S w (w1.setCell ⟨g, j, none⟩ u) :=
  h.trans (Chg.of_grown (S := fun k => k = g) (grown_set w1 g j u) (fun k e => by injection e with e; exact e.symm)) (fun k e => by subst e; exact hs)
set_option maxHeartbeats 1000000 in
theorem wbit_any (g : Nat) (bs : List Bool) (v : Int) (c : Bool) (w : World) (F : Nat → Prop) (h : (wrO g bs).P w F) (hm : bs.length ≤ 1000000000000) (h0 : 0 ≤ v) (h1 : v ≤ 4294967295) (hc : v % 2 = if c = true then 1 else 0) :
    Calls Try.prog 66 #[.pointer (some ⟨g, 0, none⟩), .int .u32 v] w fun e w' => e = .returned (.tuple #[]) ∧ Turn (wrO g bs) (wrO g (bs ++ [c])) F w w' := by
  obtain ⟨u, hW, rfl⟩ := h
  obtain ⟨A, cp, rfl, hle, hr_⟩ := own_reads' hW.o
  have HW := Lib.hid hW
  have hc0 := blk_cell hW.b 0
  have hc1 := blk_cell hW.b 1
  have hf0 := blk_frozen hW.b 0
  simp at hc0 hc1
  have HL := Lib.hid (bytesOf'_len bs)
  have HA := Lib.hid (and_one32 v h0 h1)
  have HC := Lib.hid hc
  have HM := Lib.hid hm
  have HN := Lib.hid (bytesN_more bs)
  clear hW hc hr_ hle
  go_enter Try.func66, Try.ntmps66
  go_upto_if 9 with fail
  go_cut [] from 4 (fun wc => ∃ (A1 : Option Addr) (c1 : Nat), Hid (Mid g bs (wrF g (.slice A (bytesOf' bs).length cp)) w A1 c1 wc))
  case first =>
    by_cases h8 : bs.length % 8 = 0
    · have e8 : ((bs.length : Int) % 8 == 0) = true := by simp; omega
      go_wp2_with (at_builtin; refine print_append_num (w0 := w) 0 rfl (.tmp 14) (.tmp 15) 31 5 .u8 1 rfl Try.underlying31 info_u8 (by omega) (.slice A (bytesOf' bs).length cp) (bytesOf' bs) 0 rfl rfl HW.out.o (Below.refl 0 w) (Nat.zero_le _) (by rw [HL.out]; have := HM.out; omega) ?_; intro v1 w1 ho1 hb1 hg1 hat1; obtain ⟨A1, c1, rfl, hle1, hr1⟩ := own_reads' ho1; have hbk := blk_grown HW.out.b hg1 HW.out.ne; have kc0 := blk_cell hbk 0; have kf0 := blk_frozen hbk 0; have HBK := Lib.hid hbk; have HO1 := Lib.hid ho1; have HG1 := Lib.hid hg1; have HAT := Lib.hid hat1; clear hbk ho1 hb1 hg1 hat1 hr1 hle1)
      go_meet
      case rel =>
        have eN := HN.out
        rw [if_pos h8] at eN
        have hl : (bytesOf' bs ++ [0]).length = (bs.length + 1 + 7) / 8 := by rw [← eN, bytesN_len]
        have hl0 : (bytesOf' bs ++ [0]).length = (bytesOf' bs).length + 1 := by simp
        have hl1 : (bytesOf' bs).length + 1 = (bs.length + 1 + 7) / 8 := by rw [← hl, hl0]
        have hne : some g ≠ (Value.slice A1 ((bytesOf' bs).length + 1) c1).ownBlock := by
          rcases HAT.out with h | ⟨b, h, h'⟩
          · have := HW.out.ne
            rw [← hl0, h]; exact this
          · have := blk_lt HW.out.b
            rw [← hl0, h]
            intro e; injection e with e; omega
        refine ⟨A1, c1, Lib.hid ?_⟩
        have ho := HO1.out
        rw [hl, ← eN] at ho
        have hlN : (bytesN ((bs.length + 1 + 7) / 8) bs).length = (bs.length + 1 + 7) / 8 := bytesN_len _ _
        rw [hl1] at hne ⊢
        refine ⟨?_, own_far ho hne, chg_set (Chg.of_grown HG1.out (fun k e => .inr e)) (.inl (.inl rfl)), ?_⟩
        · have := blk_set HBK.out 0 (.slice A1 ((bs.length + 1 + 7) / 8) c1)
          simpa using this
        · rintro k (rfl | hk)
          · exact .inl (.inl rfl)
          · have hk : (Value.slice A1 (bytesOf' bs ++ [0]).length c1).ownBlock = some k := by rw [hl]; exact hk
            rcases HAT.out with h | ⟨b, h, h'⟩
            · exact .inl (.inr (by rw [← h]; exact hk))
            · rw [h] at hk; injection hk with hk; exact .inr (by omega)
    · have e8 : ((bs.length : Int) % 8 == 0) = false := by simp; omega
      go_wp2
      go_meet
      case rel =>
        have eN := HN.out
        rw [if_neg h8] at eN
        have hl1 : (bytesOf' bs).length = (bs.length + 1 + 7) / 8 := by rw [← eN, bytesN_len]
        refine ⟨A, cp, Lib.hid ?_⟩
        have hb := HW.out.b
        have ho := HW.out.o
        rw [hl1] at ho hb
        rw [← eN] at ho
        exact ⟨hb, ho, Chg.refl _ _, fun k hk => .inl (by rw [hl1]; exact hk)⟩
  case rest =>
    obtain ⟨A1, c1, HMid⟩ := hcut
    clear hc0 hc1 hf0
    obtain ⟨N, hN⟩ : ∃ N, (bs.length + 1 + 7) / 8 = N := ⟨_, rfl⟩
    have hlt : bs.length / 8 < N := by omega
    have hlast : bs.length / 8 = N - 1 := by omega
    have HM2 := HMid.out
    have hb := HM2.b
    have ho := HM2.o
    have hs := HM2.s
    rw [hN] at hb ho hs
    have hch := Lib.hid HM2.ch
    clear HM2
    obtain ⟨rb, cap, e1, _, hgl⟩ := World.ownsRow.form ho (by omega)
    obtain ⟨rfl, rfl⟩ : A1 = some ⟨rb, 0, none⟩ ∧ c1 = cap := by injection e1 with e1 e2 e3; exact ⟨e1, e3⟩
    have HO := Lib.hid ho
    have HB := Lib.hid hb
    have HS := Lib.hid hs
    have k0 := blk_cell hb 0
    have k1 := blk_cell hb 1
    have kf1 := blk_frozen hb 1
    simp at k0 k1
    obtain ⟨M, rfl⟩ : ∃ M, N = M + 1 := ⟨N - 1, by omega⟩
    have hcell := own_at ho (M : Int) (by omega) (by omega)
    obtain ⟨hcl, hfr⟩ := hcell
    rw [Int.toNat_natCast] at hcl hfr
    have hbd := bytesN_bd (M + 1) bs hlt
    rw [show bs.length / 8 = M by omega] at hbd
    have hrd : rd (bytesN (M + 1) bs) (M : Int) = (bytesN (M + 1) bs).getD M 0 := rfl
    rw [hrd] at hcl
    generalize hX : (bytesN (M + 1) bs).getD M 0 = X at hcl hbd
    have HX := Lib.hid hX
    have HGL := Lib.hid hgl
    have HNM := Lib.hid hN
    have hM8 := Lib.hid hlast
    have hMb : M ≤ 1000000000000 := by omega
    clear ho hb hs hX hrd hgl hlast hlt hN
    obtain ⟨B, hB⟩ : ∃ B, v % 2 = B := ⟨_, rfl⟩
    have hB2 : B = 0 ∨ B = 1 := by omega
    have hAB : bits .and .u32 v 1 = B := by rw [HA.out, hB]
    have HB2 := Lib.hid hB2
    have HBE := Lib.hid hB
    have wB : IntKind.u8.wrap B = B := by rcases hB2 with rfl | rfl <;> rfl
    obtain ⟨r, hr⟩ : ∃ r, bs.length % 8 = r := ⟨_, rfl⟩
    have HR := Lib.hid hr
    have r0 : (bs.length : Int) % 8 = (r : Int) := by omega
    have r1 : r ≤ 7 := by omega
    have r2 : (bs.length : Int).tmod 8 = (r : Int) := by rw [Int.tmod_eq_emod_of_nonneg (by omega)]; exact r0
    have wr_ : IntKind.i64.wrap (r : Int) = (r : Int) := IntWalk.i64_in _ (by omega)
    have wM : IntKind.i64.wrap (M : Int) = (M : Int) := IntWalk.i64_in _ (by omega)
    rw [hr] at hbd
    have HOR := Lib.hid (or_low8 X B r (by omega) hbd.1 hbd.2 hB2)
    clear hbd hr hB hB2
    have q1 : (M : Int) < (M : Int) + 1 := by omega
    have q2 : (M : Int) < ((M + 1 : Nat) : Int) := by omega
    have q3 : 0 ≤ (M : Int) := by omega
    go_wp2
    go_still_tail 22, (by kernel_rfl)
    change wpList _ _ _ _ _ wc.drew
    have WX : (X + B * 2 ^ r) = X + B * pw r := by rw [pow_pw]
    have HOR2 := Lib.hid (show bits .or .u8 X (IntKind.u8.wrap (B * 2 ^ r)) = X + B * pw r by rw [IntKind.wrap_u8]; exact HOR.out)
    generalize bits .or .u8 X (IntKind.u8.wrap (B * 2 ^ r)) = Y at HOR2
    clear q1 q2 q3 wB hAB r2 wr_ WX r0
    have hne := own_ne_blk HO.out HB.out (by decide)
    have hrb : g ≠ rb := fun e => hne (by rw [e]; rfl)
    have hrb2 : rb ≠ g := fun e => hrb e.symm
    have HNE := Lib.hid hne
    have k1' := (cell_far (W := wc) (a := ⟨g, 1, none⟩) (p := ⟨rb, M, none⟩) hrb (.int .u8 Y)).trans k1
    have k1'' : (wc.setCell ⟨rb, M, none⟩ (.int .u8 Y)).drew.cell? ⟨g, 1, none⟩ = some (.int .i64 (bs.length : Int)) := k1'
    have kf1' : (wc.setCell ⟨rb, M, none⟩ (.int .u8 Y)).drew.frozen? ⟨g, 1, none⟩ = false := (World.frozen?_of_block (w := wc) (w' := wc.setCell ⟨rb, M, none⟩ (.int .u8 Y)) (a := ⟨g, 1, none⟩) (Below.heap_setCell wc ⟨rb, M, none⟩ _ g hrb)).trans kf1
    clear hne
    go_wp2
    go_end0
    have ho := HO.out
    have hb := HB.out
    have hne := HNE.out
    have hX := HX.out
    have hY : Y = X + (if c = true then pw r else 0) := by
      rw [HOR2.out]
      have := HC.out
      rw [HBE.out] at this
      rw [this]
      split <;> simp
    have hset : (bytesN (M + 1) bs).set M Y = bytesOf' (bs ++ [c]) := by
      have h8 := hM8.out
      have h7 := bytesN_snoc (M + 1) bs c (by omega)
      rw [show bs.length / 8 = M by omega, HX.out, HR.out] at h7
      rw [hY, ← h7, ← bytesN_all, List.length_append]
      rw [show ([c] : List Bool).length = 1 from rfl, HNM.out]
    refine ⟨rfl, wrF g (.slice (some ⟨rb, 0, none⟩) (M + 1) c1), ⟨_, ⟨?_, ?_⟩, rfl⟩, ?_, HS.out⟩
    · have h1 := blk_set (blk_far hb hrb (p := ⟨rb, M, none⟩) (.int .u8 Y)) 1 (.int .i64 ((bs.length : Int) + 1))
      have hl : (bytesOf' (bs ++ [c])).length = M + 1 := by rw [← hset, List.length_set, bytesN_len]
      rw [List.length_append]
      show ((wc.setCell ⟨rb, M, none⟩ (.int .u8 Y)).setCell ⟨g, 1, none⟩ (.int .i64 ((bs.length : Int) + 1))).heap[g]? = _
      simpa using h1
    · have hl : (bytesOf' (bs ++ [c])).length = M + 1 := by rw [← hset, List.length_set, bytesN_len]
      rw [hl, ← hset]
      have h1 := (own_store ho (M : Int) Y).1
      rw [Int.toNat_natCast] at h1
      exact own_far h1 hne
    · exact chg_set (Chg.drew (chg_set hch.out (HS.out rb (.inr rfl)))) (HS.out g (.inl rfl))
/-- a number's bits, the lowest first -/
def bitsN (v : Int) (n : Nat) : List Bool := (List.range n).map fun i => decide (v / 2 ^ i % 2 = 1)
theorem bitsN_len (v : Int) (n : Nat) : (bitsN v n).length = n := by simp [bitsN]
theorem bitsN_succ (v : Int) (n : Nat) : bitsN v (n + 1) = bitsN v n ++ [decide (v / 2 ^ n % 2 = 1)] := by simp [bitsN, List.range_succ]
theorem Turn.then_ {o o1 o2 : Ob} {F F1 : Nat → Prop} {w w1 w2 : World} (c : Chg F w w1) (s : ∀ k, F1 k → F k ∨ w.heap.size ≤ k) (h : Turn o1 o2 F1 w1 w2) : Turn o o2 F w w2 := by
  obtain ⟨F2, p2, c2, s2⟩ := h
  exact ⟨F2, p2, c.trans c2 s, fun k hk => (s2 k hk).elim (s k) (fun h => .inr (Nat.le_trans c.size h))⟩
set_option maxHeartbeats 1000000 in
theorem wput_ok (g : Nat) (bs : List Bool) (v : Int) (n : Nat) (w : World) (F : Nat → Prop) (h : (wrO g bs).P w F) (hm : bs.length ≤ 100000000000) (h0 : 0 ≤ v) (h1 : v ≤ 4294967295) (hn : n ≤ 24) :
    Calls Try.prog 49 #[.pointer (some ⟨g, 0, none⟩), .int .u32 v, .int .i64 (n : Int)] w fun e w' => e = .returned (.bool true) ∧ Turn (wrO g bs) (wrO g (bs ++ bitsN v n)) F w w' := by
  have HP := Lib.hid h
  clear h
  go_enter Try.func49, Try.ntmps49
  go_wp2
  go_loopg [15] n (fun k q wr => ∃ i : Nat, i ≤ n ∧ k = n - i ∧ q = .int .i64 i ∧ Hid (Turn (wrO g bs) (wrO g (bs ++ bitsN v i)) F w wr))
  case atStart => exact ⟨0, by omega, by omega, rfl, Lib.hid (by rw [show bitsN v 0 = [] from rfl, List.append_nil]; exact Turn.refl HP.out)⟩
  case round =>
    obtain ⟨i, hi, hk, rfl, HT⟩ := hrel
    have HK := Lib.hid hk
    clear hk
    by_cases hlt : i < n
    · obtain ⟨F1, p1, c1, s1⟩ := HT.out
      have HP1 := Lib.hid p1
      have HC1 := Lib.hid c1
      have HS1 := Lib.hid s1
      have HL := Lib.hid (show (bs ++ bitsN v i).length ≤ 1000000000000 by rw [List.length_append, bitsN_len]; omega)
      have hd0 : 0 ≤ v / 2 ^ i := Int.ediv_nonneg h0 (by rw [pow_pw]; have := pw_pos i; omega)
      have hd1 : v / 2 ^ i ≤ 4294967295 := Int.le_trans (Int.ediv_le_self _ h0) h1
      have HD0 := Lib.hid hd0
      have HD1 := Lib.hid hd1
      have HB := Lib.hid (show v / 2 ^ i % 2 = if decide (v / 2 ^ i % 2 = 1) = true then 1 else 0 by
        by_cases c : v / 2 ^ i % 2 = 1
        · rw [if_pos (decide_eq_true c)]; exact c
        · rw [if_neg (by simpa using c)]; omega)
      have HU := Lib.hid (bitsN_succ v i)
      have q0 : (i : Int) < (n : Int) := by omega
      clear p1 c1 s1 HT hd0 hd1
      go_wp2_with (go_at_call 66; (with_reducible refine (wbit_any g _ _ _ _ _ HP1.out HL.out HD0.out HD1.out HB.out).mono ?_); rintro e w1 ⟨rfl, ht⟩; have HT := Lib.hid ht; clear ht)
      go_roundg (n - (i + 1))
      case measure => have := HK.out; omega
      case rel => exact ⟨i + 1, by omega, rfl, by go_num, Lib.hid (by rw [HU.out, ← List.append_assoc]; exact Turn.then_ (o := wrO g bs) HC1.out HS1.out HT.out)⟩
    · obtain rfl : i = n := by omega
      go_wp2
      go_ret
      exact ⟨rfl, HT.out⟩
set_option maxHeartbeats 400000 in
theorem wput_no (g : Nat) (bs : List Bool) (v n : Int) (w : World) (hn : n < 0 ∨ 24 < n) :
    Calls Try.prog 49 #[.pointer (some ⟨g, 0, none⟩), .int .u32 v, .int .i64 n] w fun e w' => e = .returned (.bool false) ∧ w' = w := by
  rcases hn with hn | hn
  all_goals
    go_enter Try.func49, Try.ntmps49
    go_wp2
    go_ret
    exact ⟨rfl, rfl⟩
end Go.Proofs.Ytmmfkmkhflieeaa
