/- Contracts of the reference of bits (puncheonref01: Bits, Number, Bytes, Same) over lists of bools. -/
import Derived.Test.YtmmfkmkhflieeaaBg
import Derived.IntWalk
namespace Go.Proofs.Ytmmfkmkhflieeaa
open Go.RowKit Go.Proofs.YtmmfkmkhflieeaaW.PrintWords Go.Proofs.YtmmfkmkhflieeaaW.PrintLast Go.Proofs.YtmmfkmkhflieeaaW.PrintMore
attribute [local go_sem] max2_int min2_int max_two min_two max_three min_three max_four min_four
set_option linter.unusedSimpArgs false
set_option linter.unusedVariables false
theorem info_bool : (Try.prog.info? 4).map (fun i => (i.zero, i.size, i.bytes)) = some (some (.bool false), 1, 1) := by kernel_rfl
/-- a slice of bools that reads -/
abbrev ReadsB (w : World) (A : Option Addr) (n : Nat) (l : List Bool) : Prop := ReadsOf Value.bool false w A n l
theorem readsB_cell {w : World} {A : Option Addr} {n : Nat} {l : List Bool} (h : ReadsB w A n l) (i : Nat) (hi : i < n) : ∃ ad, A = some ad ∧ w.cell? (ad.add i) = some (.bool (l.getD i false)) := by
  obtain ⟨ad, e, hc⟩ := h.2.2 (by omega)
  exact ⟨ad, e, hc i hi⟩
theorem bit_bool (bs : List Int) (k : Nat) (h : 0 ≤ bs.getD (k / 8) 0 ∧ bs.getD (k / 8) 0 ≤ 255) : (bits .and .u8 (bs[k / 8]?.getD 0 / 2 ^ (k % 8)) 1 == 1) = decide (bitAt bs k = 1) := by
  have h1 := bit_term bs k h
  have hb := bitAt_bd bs k
  rw [List.getD_eq_getElem?_getD] at h
  have hp : (1 : Int) ≤ 2 ^ (k % 8) := by rw [pow_pw]; exact pw_pos _
  have h0 : 0 ≤ bs[k / 8]?.getD 0 / 2 ^ (k % 8) := Int.ediv_nonneg h.1 (by omega)
  have h2 : bs[k / 8]?.getD 0 / 2 ^ (k % 8) ≤ 255 := Int.le_trans (Int.ediv_le_self _ h.1) h.2
  rw [and_one _ h0 h2] at h1 ⊢
  rw [Bool.eq_iff_iff, beq_iff_eq, decide_eq_true_iff]
  omega
theorem bits_snoc (bs : List Int) (m : Nat) (h : m < 8 * bs.length) : (bitsOf bs).take m ++ [decide (bitAt bs m = 1)] = (bitsOf bs).take (m + 1) := by
  have hl : m < (bitsOf bs).length := by rw [bitsOf_len]; exact h
  rw [List.take_succ_eq_append_getElem hl]
  have := bitsOf_get bs m h
  rw [List.getElem?_eq_getElem hl] at this
  rw [Option.some.inj this]
set_option maxHeartbeats 1000000 in
theorem bits_any (A : Option Addr) (n : Nat) (bs : List Int) (c : Nat) (w : World) (hn : bs.length = n) (hr : ReadsInt w .u8 A n bs) (hok : ∀ x, x ∈ bs → 0 ≤ x ∧ x ≤ 255) (hm : n ≤ 1000000000000) :
    Calls Try.prog 26 #[.slice A n c] w fun e w' => ∃ v, e = .returned v ∧ w'.ownsRow w.heap.size 4 1 v (8 * n) (encs Value.bool (bitsOf bs)) ∧ Below w.heap.size w w' := by
  subst hn
  have HR := Lib.hid hr
  have HOK := Lib.hid hok
  clear hr hok
  go_enter Try.func26, Try.ntmps26
  go_wp2
  go_loopg [3, 4] bs.length (fun k v q wr => ∃ i : Nat, i ≤ bs.length ∧ k = bs.length - i ∧ q = .int .i64 i ∧ wr.ownsRow w.heap.size 4 1 v ((bitsOf bs).take (8 * i)).length (encs Value.bool ((bitsOf bs).take (8 * i))) ∧ Below w.heap.size w wr)
  case atStart => exact ⟨0, by omega, by omega, rfl, own_nil _ _ _ _, Below.refl _ _⟩
  case round =>
    obtain ⟨i, hi, hk, rfl, hO, hB⟩ := hrel
    have HK := Lib.hid hk
    have HO := Lib.hid hO
    have HB := Lib.hid hB
    clear hk hO hB
    by_cases hlt : i < bs.length
    · go_wp2
      go_loopg [3, 5] 8 (fun k v q wr => ∃ j : Nat, j ≤ 8 ∧ k = 8 - j ∧ q = .int .i64 j ∧ wr.ownsRow w.heap.size 4 1 v ((bitsOf bs).take (8 * i + j)).length (encs Value.bool ((bitsOf bs).take (8 * i + j))) ∧ Below w.heap.size w wr)
      case atStart => exact ⟨0, by omega, by omega, rfl, HO.out, HB.out⟩
      case round =>
        obtain ⟨j, hj, hk, rfl, hO, hB⟩ := hrel
        have HK1 := Lib.hid hk
        have HO1 := Lib.hid hO
        have HB1 := Lib.hid hB
        clear hk hO hB HO HB
        by_cases hj8 : j < 8
        · obtain ⟨ad, hA, hcell⟩ := reads_cell HR.out i hlt
          subst hA
          replace hcell := pw_cell_below HB1.out hcell
          have hxb := ok_getD HOK.out i
          have HT := Lib.hid (bit_bool bs (8 * i + j) (by rw [show (8 * i + j) / 8 = i by omega]; exact hxb))
          rw [show (8 * i + j) / 8 = i by omega, show (8 * i + j) % 8 = j by omega, ← List.getD_eq_getElem?_getD] at HT
          generalize bs.getD i 0 = X at hcell hxb HT
          have HS := Lib.hid (bits_snoc bs (8 * i + j) (by omega))
          have HL := Lib.hid (show ((bitsOf bs).take (8 * i + j)).length = 8 * i + j by rw [List.length_take, bitsOf_len]; omega)
          have HL1 := Lib.hid (show ((bitsOf bs).take (8 * i + (j + 1))).length = 8 * i + (j + 1) by rw [List.length_take, bitsOf_len]; omega)
          go_wp2_with (at_builtin; refine print_append_of (w0 := w) Value.bool w.heap.size rfl (.tmp 16) (.tmp 25) 27 4 (.bool false) 1 rfl Try.underlying27 info_bool rfl (by omega) _ ((bitsOf bs).take (8 * i + j)) _ rfl rfl rfl HO1.out HB1.out HB1.out.size (by rw [HL.out]; omega) ?_; intro v1 w1 ho hb hx1 hx2; clear hx1 hx2; have HO2 := Lib.hid ho; have HB2 := Lib.hid hb; clear ho hb)
          go_roundg (8 - (j + 1))
          case measure => have := HK1.out; omega
          case rel =>
            refine ⟨j + 1, by omega, rfl, by go_num, ?_, HB2.out⟩
            have h := HO2.out
            rw [HT.out, HS.out] at h
            exact h
        · obtain rfl : j = 8 := by omega
          go_wp2
          go_roundg (bs.length - (i + 1))
          case measure => have := HK.out; omega
          case rel => exact ⟨i + 1, by omega, rfl, by go_num, by rw [show 8 * (i + 1) = 8 * i + 8 by omega]; exact HO1.out, HB1.out⟩
    · obtain rfl : i = bs.length := by omega
      have ht : (bitsOf bs).take (8 * bs.length) = bitsOf bs := List.take_of_length_le (by rw [bitsOf_len]; omega)
      rw [ht, bitsOf_len] at HO
      go_wp2
      go_ret
      exact ⟨_, rfl, HO.out, HB.out⟩
set_option maxHeartbeats 1000000 in
theorem number_any (A : Option Addr) (n : Nat) (l : List Bool) (c : Nat) (w : World) (hn : l.length = n) (hr : ReadsB w A n l) (hm : n ≤ 30) :
    Calls Try.prog 68 #[.slice A n c] w fun e w' => e = .returned (.int .u32 (numOf l)) ∧ w = w' := by
  subst hn
  have HR := Lib.hid hr
  clear hr
  go_enter Try.func68, Try.ntmps68
  go_wp2
  go_loopg [3, 4] l.length (fun k v q wr => ∃ m : Nat, m ≤ l.length ∧ k = m ∧ q = .int .i64 ((m : Int) - 1) ∧ v = .int .u32 (numOf (l.drop m)) ∧ wr = w)
  case atStart => exact ⟨l.length, by omega, rfl, rfl, by simp [numOf], rfl⟩
  case round =>
    obtain ⟨m, hi, hk, rfl, rfl, rfl⟩ := hrel
    have HK := Lib.hid hk
    clear hk
    rcases Nat.eq_zero_or_pos m with rfl | hpos
    · rw [List.drop_zero]
      go_wp2
      go_ret
      exact ⟨rfl, rfl⟩
    · obtain ⟨p, rfl⟩ : ∃ p, m = p + 1 := ⟨m - 1, by omega⟩
      have hpm : ((p + 1 : Nat) : Int) - 1 = (p : Int) := by omega
      rw [hpm]
      clear hpm
      obtain ⟨ad, hA, hcell⟩ := readsB_cell HR.out p (by omega)
      subst hA
      have HS := Lib.hid (numOf_drop l p (by omega))
      have hb := numOf_bd (l.drop (p + 1))
      have hp2 := pw_mono (show (l.drop (p + 1)).length ≤ 29 by rw [List.length_drop]; omega)
      rw [show pw 29 = 536870912 from by decide] at hp2
      have hb2 : 0 ≤ numOf (l.drop (p + 1)) ∧ numOf (l.drop (p + 1)) ≤ 536870912 := by omega
      clear hb hp2
      generalize numOf (l.drop (p + 1)) = Y at HS hb2 ⊢
      cases hX : l.getD p false
      all_goals
        rw [hX] at hcell HS
        clear hX
        go_wp2
        go_roundg p
        case measure => have := HK.out; omega
        case rel => exact ⟨p, by omega, rfl, rfl, by rw [HS.out]; simp; try omega, rfl⟩
theorem str_inj {xs ys : List Int} (hx : ∀ x, x ∈ xs → 0 ≤ x ∧ x ≤ 255) (hy : ∀ x, x ∈ ys → 0 ≤ x ∧ x ≤ 255) (h : strOfNums xs = strOfNums ys) : xs = ys := by
  have h1 : xs.map (fun n => UInt8.ofNat n.toNat) = ys.map (fun n => UInt8.ofNat n.toNat) := by
    rw [← strOfNums_data, ← strOfNums_data, h]
  have hl : xs.length = ys.length := by simpa using congrArg List.length h1
  apply ext_getD' hl
  intro i hi
  have hxi := ok_getD hx i
  have hyi := ok_getD hy i
  have h2 := congrArg (fun l => l[i]?) h1
  simp only [List.getElem?_map, List.getElem?_eq_getElem hi, List.getElem?_eq_getElem (hl ▸ hi), Option.map_some, Option.some.injEq] at h2
  simp only [List.getD_eq_getElem?_getD, List.getElem?_eq_getElem hi, List.getElem?_eq_getElem (hl ▸ hi), Option.getD_some] at hxi hyi ⊢
  have h3 := congrArg UInt8.toNat h2
  rw [UInt8.toNat_ofNat', UInt8.toNat_ofNat'] at h3
  omega
def eqB (a b : List Int) : Bool := decide (a = b)
theorem eqB_self (a : List Int) : eqB a a = true := by simp [eqB]
set_option maxHeartbeats 400000 in
theorem same_any (A B : Option Addr) (n p : Nat) (l m : List Int) (c d : Nat) (w : World) (hr : ReadsInt w .u8 A n l) (hq : ReadsInt w .u8 B p m) (hl : ∀ x, x ∈ l → 0 ≤ x ∧ x ≤ 255) (hm : ∀ x, x ∈ m → 0 ≤ x ∧ x ≤ 255) :
    Calls Try.prog 13 #[.slice A n c, .slice B p d] w fun e w' => e = .returned (.bool (eqB l m)) ∧ w = w' := by
  have e1 := string_of_reads (P := Try.prog) (src := 31) (dst := 9) Try.underlying31 Try.underlying5 Try.underlying9 (c := c) hr
  have e2 := string_of_reads (P := Try.prog) (src := 31) (dst := 9) Try.underlying31 Try.underlying5 Try.underlying9 (c := d) hq
  have E := Lib.hid (show eqB l m = ((strOfNums l).toList == (strOfNums m).toList) by
    unfold eqB; rw [Bool.eq_iff_iff, decide_eq_true_iff, beq_iff_eq]
    refine ⟨fun h => by rw [h], fun h => str_inj hl hm ?_⟩
    rw [ByteArray.toList_eq, ByteArray.toList_eq] at h
    rcases h1 : strOfNums l with ⟨a⟩
    rcases h2 : strOfNums m with ⟨b⟩
    rw [h1, h2] at h
    simp only at h
    rw [Array.ext' h])
  generalize strOfNums l = S1 at e1 E
  generalize strOfNums m = S2 at e2 E
  clear hr hq hl hm
  go_enter Try.func13, Try.ntmps13
  go_wp2
  go_ret
  exact ⟨by rw [E.out]; rfl, rfl⟩
def arrB (cs : List Int) : Array Value := (nums .u8 cs).toArray
theorem arrB_set (cs : List Int) (i : Nat) (x : Int) : (arrB cs).setIfInBounds i (.int .u8 x) = arrB (cs.set i x) := by
  unfold arrB nums; simp [List.map_set]
theorem arrB_get (cs : List Int) (i : Nat) (h : i < cs.length) : (arrB cs)[i]? = some (.int .u8 (cs.getD i 0)) := by
  unfold arrB nums; simp [List.getElem?_eq_getElem h]
theorem make_bytes (m : Nat) (hm : m ≤ 281474976710656) (W : World) : Sem.run Try.prog (Instr.makeSlice 31 (.int .i64 (m : Int)) (.int .i64 (m : Int))) W = .ok (.slice (some ⟨W.heap.size, 0, none⟩) m m) (W.alloc (.cells (arrB (List.replicate m 0)) 5)) := by
  have := print_make (P := Try.prog) 31 5 .u8 1 Try.underlying31 info_u8 (by omega) m (by omega) W
  rw [this]
  congr 3
  apply Array.ext'
  simp only [arrB]
  apply List.ext_getElem
  · simp [nums, madeCells]
  · intro i h1 h2
    simp [nums, madeCells, Nat.mod_one]
theorem own_arrB {w : World} {base g n : Nat} {cs : List Int} (h : w.heap[g]? = some (.cells (arrB cs) 5 (0, 0))) (hb : base ≤ g) (hn : cs.length = n) (hm : n ≤ 9223372036854775807) :
    w.ownsRow base 5 1 (.slice (some ⟨g, 0, none⟩) n n) n (nums .u8 cs) :=
  ⟨by rw [nums_length, hn]; omega, .inr ⟨_, n, _, rfl, hb, h, Nat.le_refl _, by simpa [maxLen] using hm, by simp [arrB, nums, hn], by simp only [arrB]; exact List.take_of_length_le (by rw [nums_length, hn]; omega)⟩⟩
set_option maxHeartbeats 1000000 in
theorem bytes_any (A : Option Addr) (n : Nat) (l : List Bool) (c : Nat) (w : World) (hn : l.length = n) (hr : ReadsB w A n l) (hm : n ≤ 1000000000000) :
    Calls Try.prog 15 #[.slice A n c] w fun e w' => ∃ v, e = .returned v ∧ w'.ownsRow w.heap.size 5 1 v ((n + 7) / 8) (nums .u8 (bytesOf' l)) ∧ Below w.heap.size w w' := by
  have HR := Lib.hid hr
  have HN := Lib.hid hn
  clear hr hn
  obtain ⟨N, hN⟩ : ∃ N, (n + 7) / 8 = N := ⟨_, rfl⟩
  have HNN := Lib.hid hN
  have hmk := make_bytes N (by omega)
  have e1 : ((n : Int) + 7) / 8 = (N : Int) := by omega
  rw [hN]
  clear hN
  go_enter Try.func15, Try.ntmps15
  go_wp2
  clear hmk e1
  go_loopg [4] n (fun k q wr => ∃ i : Nat, i ≤ n ∧ k = n - i ∧ q = .int .i64 i ∧ wr.heap[w.heap.size]? = some (.cells (arrB (bytesN N (l.take i))) 5 (0, 0)) ∧ Below w.heap.size w wr)
  case atStart => exact ⟨0, by omega, by omega, rfl, by rw [List.take_zero, bytesN_nil]; exact heap_alloc_new w _, (Below.refl _ _).alloc (Nat.le_refl _) _⟩
  case round =>
    obtain ⟨i, hi, hk, rfl, hblk, hbel⟩ := hrel
    have HK := Lib.hid hk
    have HB := Lib.hid hbel
    have HBLK := Lib.hid hblk
    clear hk hbel hblk
    by_cases hlt : i < n
    · obtain ⟨ad, hA, hcell⟩ := readsB_cell HR.out i hlt
      subst hA
      replace hcell := pw_cell_below HB.out hcell
      have hil : i < l.length := by have := HN.out; omega
      have hlen : (l.take i).length = i := by rw [List.length_take]; omega
      have hiN : i / 8 < N := by have := HNN.out; omega
      have hS := bytesN_snoc N (l.take i) (l.getD i false) (by rw [hlen]; exact hiN)
      have hbd := bytesN_bd N (l.take i) (by rw [hlen]; exact hiN)
      rw [← takeB_snoc l i hil] at hS
      rw [hlen] at hS hbd
      have HS := Lib.hid hS
      clear hS hlen
      cases hX : l.getD i false
      · rw [hX] at hcell HS
        have HS2 := Lib.hid (show bytesN N (l.take (i + 1)) = bytesN N (l.take i) by
          rw [HS.out, if_neg (by simp), Int.add_zero]
          apply ext_getD' (by rw [List.length_set])
          intro j hj
          rw [getD_set' _ _ _ _ (by rw [bytesN_len]; exact hiN)]
          split
          · rename_i e; rw [e]
          · rfl)
        clear hX hbd
        go_wp2
        go_roundg (n - (i + 1))
        case measure => have := HK.out; omega
        case rel => exact ⟨i + 1, by omega, rfl, by go_num, by rw [HS2.out]; exact HBLK.out, HB.out⟩
      · rw [hX] at hcell HS
        clear hX
        have hg := blk_cell HBLK.out (i / 8)
        rw [arrB_get _ _ (by rw [bytesN_len]; exact hiN)] at hg
        have hf := blk_frozen HBLK.out (i / 8)
        have hp := pw_mono (show i % 8 ≤ 7 by omega)
        have hp2 := pw_pos (i % 8)
        rw [show pw 7 = 128 from by decide] at hp
        have HPW := Lib.hid (pow_pw (i % 8))
        generalize (bytesN N (l.take i)).getD (i / 8) 0 = Y at hg hbd HS
        have hb3 : 0 ≤ Y ∧ Y + pw (i % 8) ≤ 255 := by omega
        clear hbd
        have q0 : (i : Int) / 8 = ((i / 8 : Nat) : Int) := by omega
        have r0 : (i : Int) % 8 = ((i % 8 : Nat) : Int) := by omega
        have r1 : i % 8 ≤ 7 := by omega
        generalize i / 8 = q at q0 hg hf HS hiN
        generalize i % 8 = r at r0 r1 HPW hp hp2 hb3 HS
        have q1 : (q : Int) < (N : Int) := by omega
        have wq : IntKind.i64.wrap (q : Int) = (q : Int) := IntWalk.i64_in _ (by omega)
        have r2 : (i : Int).tmod 8 = (r : Int) := by rw [Int.tmod_eq_emod_of_nonneg (by omega)]; exact r0
        have wr_ : IntKind.i64.wrap (r : Int) = (r : Int) := IntWalk.i64_in _ (by omega)
        go_wp2
        go_still_tail 13, (by kernel_rfl)
        change wpList _ _ _ _ _ wr.drew
        have WV := Lib.hid (show (Y + 2 ^ r) % 256 = Y + pw r by rw [HPW.out]; omega)
        replace HS := Lib.hid (HS.out.trans (by first | (rw [if_pos trivial]) | (rw [if_pos rfl])))
        clear wq r2 wr_ q0 r0
        go_wp2
        go_roundg (n - (i + 1))
        case measure => have := HK.out; omega
        case rel => exact ⟨i + 1, by omega, rfl, by go_num, by rw [HS.out, ← arrB_set, WV.out]; exact blk_set HBLK.out _ _, (HB.out.setCell (Nat.le_refl _) _).drew⟩
    · obtain rfl : i = n := by omega
      rw [List.take_of_length_le (by have := HN.out; omega)] at HBLK
      go_wp2
      go_ret
      exact ⟨_, rfl, by have h := own_arrB HBLK.out (Nat.le_refl _) (bytesN_len N l) (by have := HNN.out; omega); rw [← HNN.out, ← HN.out] at h ⊢; exact h, HB.out⟩
end Go.Proofs.Ytmmfkmkhflieeaa
