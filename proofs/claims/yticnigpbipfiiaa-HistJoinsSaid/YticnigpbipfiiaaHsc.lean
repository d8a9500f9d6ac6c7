/- Contracts of the layer hist: each returns what XHs tells; no block that was there turns. -/
import Derived.Test.YticnigpbipfiiaaHs
import Derived.Test.YticnigpbipfiiaaBase
import Derived.Test.YticnigpbipfiiaaProg
import Derived.KernelRfl
import Derived.BigQuiet
import Derived.Deep.QuietTactic
import Derived.StillTailTactics
namespace Go.Proofs.Yticnigpbipfiiaa
open Go.RowKit Go.Proofs.YticnigpbipfiiaaW.PrintWords Go.Proofs.YticnigpbipfiiaaW.PrintLast Go.Proofs.YticnigpbipfiiaaW.PrintMore
attribute [local go_sem] max2_int min2_int max_two min_two max_three min_three max_four min_four
set_option linter.unusedSimpArgs false
set_option linter.unusedVariables false
/-- an array of whole numbers in memory -/
def arrI (cs : List Int) : Array Value := (nums .i64 cs).toArray
theorem arrI_set (cs : List Int) (i : Nat) (x : Int) : (arrI cs).setIfInBounds i (.int .i64 x) = arrI (cs.set i x) := by
  unfold arrI nums; simp [List.map_set]
theorem arrI_get (cs : List Int) (i : Nat) (h : i < cs.length) : (arrI cs)[i]? = some (.int .i64 (cs.getD i 0)) := by
  unfold arrI nums; simp [List.getElem?_eq_getElem h]
theorem arrI_toList (cs : List Int) : (arrI cs).toList = nums .i64 cs := by simp [arrI]
theorem arr_reads {w : World} {g n : Nat} {t : TypeId} {cs : List Int} (h : w.heap[g]? = some (.cells (arrI cs) t (0, 0))) (hn : cs.length = n) (hm : n ≤ 9223372036854775807) : ReadsInt w .i64 (some ⟨g, 0, none⟩) n cs := by
  refine ⟨hn, hm, fun _ => ⟨_, rfl, fun j hj => ?_⟩⟩
  rw [add_plain, blk_cell h, arrI_get _ _ (by omega)]
theorem info_int : (Try.prog.info? 3).map (fun i => (i.zero, i.size, i.bytes)) = some (some (.int .i64 0), 1, 8) := by kernel_rfl
theorem info_u8 : (Try.prog.info? 5).map (fun i => (i.zero, i.size, i.bytes)) = some (some (.int .u8 0), 1, 1) := by kernel_rfl
theorem made_arr (m : Nat) : madeCells #[Value.int .i64 0] m = arrI (zeros m) := by
  apply Array.ext'
  rw [arrI_toList]
  apply List.ext_getElem
  · simp [nums, madeCells, zeros]
  · intro i h1 h2
    simp [nums, madeCells, zeros, Nat.mod_one]
theorem make_ints (m : Nat) (hm : m * 8 ≤ 281474976710656) (W : World) : Sem.run Try.prog (Instr.makeSlice 25 (.int .i64 (m : Int)) (.int .i64 (m : Int))) W = .ok (.slice (some ⟨W.heap.size, 0, none⟩) m m) (W.alloc (.cells (arrI (zeros m)) 3)) := by
  have := print_make (P := Try.prog) 25 3 .i64 8 Try.underlying25 info_int (by omega) m hm W
  rwa [made_arr] at this
theorem make_256 (W : World) : Sem.run Try.prog (Instr.makeSlice 25 (.int .i64 256) (.int .i64 256)) W = .ok (.slice (some ⟨W.heap.size, 0, none⟩) 256 256) (W.alloc (.cells (arrI (zeros 256)) 3)) := make_ints 256 (by omega) W
theorem zero_arr256 (W : World) : Sem.run Try.prog (zeroValue 34) W = .ok (.agg (arrI (zeros 256))) W := by kernel_rfl
set_option maxHeartbeats 1000000 in
set_option maxRecDepth 20000 in
theorem of_any (A : Option Addr) (l : List Int) (c : Nat) (w : World) (hr : ReadsInt w .u8 A l.length l) (hb : BytesOk l) :
    Calls Try.prog 10 #[.slice A l.length c] w fun e w' => ∃ v, e = .returned v ∧ w'.ownsRow w.heap.size 3 1 v 256 (nums .i64 (cnt l)) ∧ Below w.heap.size w w' := by
  have hz := zero_arr256
  have HR := Lib.hid hr
  have hl : l.length ≤ 9223372036854775807 := hr.2.1
  clear hr
  go_enter Try.func10, Try.ntmps10
  go_wp2
  clear hz
  go_loopg [8] l.length (fun k q wr => ∃ i : Nat, i ≤ l.length ∧ k = l.length - i ∧ q = .int .i64 i ∧ wr.heap[w.heap.size]? = some (.cells (arrI (cnt (l.take i))) 34 (0, 0)) ∧ Below w.heap.size w wr)
  case atStart => exact ⟨0, by omega, by omega, rfl, by rw [List.take_zero, cnt_nil]; exact heap_alloc_new w _, (Below.refl _ _).alloc (Nat.le_refl _) _⟩
  case round =>
    obtain ⟨i, hi, hk, rfl, hblk, hbel⟩ := hrel
    by_cases hlt : i < l.length
    · obtain ⟨x0, x1⟩ := hb.at i hlt
      obtain ⟨ad, hA, hc⟩ := reads_cell HR.out i hlt
      subst hA
      have hc' := pw_cell_below hbel hc
      have hlen := cnt_len (l.take i)
      have hg := blk_cell hblk (l.getD i 0).toNat
      rw [arrI_get _ _ (by omega)] at hg
      have hf := blk_frozen hblk (l.getD i 0).toNat
      have HS := Lib.hid (cnt_snoc (l.take i) (l.getD i 0) x0 x1)
      rw [← take_snoc' l i hlt] at HS
      have hbd : 0 ≤ (cnt (l.take i)).getD (l.getD i 0).toNat 0 ∧ (cnt (l.take i)).getD (l.getD i 0).toNat 0 ≤ i := by
        rw [cnt_get _ _ (by omega)]
        have := List.count_le_length (a := (((l.getD i 0).toNat : Nat) : Int)) (l := l.take i)
        rw [List.length_take] at this; omega
      have HB := Lib.hid hbel
      have HBLK := Lib.hid hblk
      have HK := Lib.hid hk
      clear hc hlen hbel hblk hk hb
      obtain ⟨X, hX⟩ : ∃ X : Nat, l.getD i 0 = X := ⟨(l.getD i 0).toNat, by omega⟩
      rw [hX] at hc' hg hf x0 x1 HS hbd
      rw [Int.toNat_natCast] at hg hf HS hbd
      clear hX
      obtain ⟨Y, hY⟩ : ∃ Y : Int, (cnt (l.take i)).getD X 0 = Y := ⟨_, rfl⟩
      rw [hY] at hg hbd HS
      clear hY
      go_wp2
      go_roundg (l.length - (i + 1))
      case measure => have := HK.out; omega
      case rel => exact ⟨i + 1, by omega, rfl, by go_num, by rw [HS.out, ← arrI_set]; exact blk_set HBLK.out _ _, HB.out.setCell (Nat.le_refl _) _⟩
    · have hii : i = l.length := by omega
      subst hii
      rw [take_all] at hblk
      have HB := Lib.hid hbel
      have HBLK := Lib.hid hblk
      clear hbel hblk hk hb
      have hlen := Lib.hid (cnt_len l)
      go_wp2_with (at_builtin; refine print_append_row (w0 := w) w.heap.size rfl _ _ 25 3 .i64 8 rfl Try.underlying25 info_int (by omega) _ [] (cnt l) _ _ _ rfl rfl (own_lit wr w.heap.size 3 .i64 [] HB.out.size (by simp)) (arr_reads (blk_alloc HBLK.out _) hlen.out (by omega)) (HB.out.alloc HB.out.size _) (by have := HB.out.size; simp; omega) (by simp) ?_; intro v1 w1 ho hb1 _ _)
      go_ret
      rw [List.nil_append, hlen.out] at ho
      exact ⟨_, rfl, ho, hb1⟩
set_option maxHeartbeats 1000000 in
theorem right_any (A : Option Addr) (l : List Int) (c : Nat) (w : World) (hr : ReadsInt w .i64 A l.length l) :
    Calls Try.prog 12 #[.slice A l.length c] w fun e w' => e = .returned (.bool (rightB l)) ∧ w = w' := by
  have HR := Lib.hid hr
  have hl : l.length ≤ 9223372036854775807 := hr.2.1
  clear hr
  go_enter Try.func12, Try.ntmps12
  go_wp2
  go_loopg [3, 8] l.length (fun k s q wr => ∃ i : Nat, i ≤ l.length ∧ k = l.length - i ∧ q = .int .i64 i ∧ s = .int .i64 (l.take i).sum ∧ sofar (l.take i) ∧ wr = w)
  case atStart => exact ⟨0, by omega, by omega, rfl, rfl, sofar_nil, rfl⟩
  case round =>
    obtain ⟨i, hi, hk, rfl, rfl, hs, rfl⟩ := hrel
    obtain ⟨s0, s1⟩ := sofar_bd hs
    have HK := Lib.hid hk
    clear hk
    by_cases hlt : i < l.length
    · obtain ⟨ad, hA, hc⟩ := reads_cell HR.out i hlt
      subst hA
      have HT := Lib.hid (take_snoc' l i hlt)
      have HST := Lib.hid (rightB_stop i hlt)
      generalize hX : l.getD i 0 = X at hc HT HST
      clear hX
      have hsn := fun a b => sofar_snoc hs (x := X) a b
      rw [← HT.out] at hsn
      have HSN := Lib.hid hsn
      have HSUM := Lib.hid (show (l.take (i + 1)).sum = (l.take i).sum + X by rw [HT.out, List.sum_append]; simp)
      clear hsn hs
      generalize hS : (l.take i).sum = S at s0 s1 HST HSN HSUM ⊢
      clear hS
      by_cases hx : X < 0
      · have e := Lib.hid (HST.out (.inl hx))
        go_wp2
        go_ret
        exact ⟨by rw [e.out]; rfl, rfl⟩
      · by_cases hy : 1073741824 - S < X
        · have e := Lib.hid (HST.out (.inr hy))
          go_wp2
          go_ret
          exact ⟨by rw [e.out]; rfl, rfl⟩
        · go_wp2
          go_roundg (l.length - (i + 1))
          case measure => have := HK.out; omega
          case rel => exact ⟨i + 1, by omega, rfl, by go_num, by rw [HSUM.out], HSN.out (by omega) (by omega), rfl⟩
    · obtain rfl : i = l.length := by omega
      rw [take_all] at hs
      have E := Lib.hid (rightB_sofar hs)
      clear hs
      go_wp2
      go_ret
      refine ⟨?_, rfl⟩
      rw [E.out]
      exact ret_booleq (by rw [Bool.eq_iff_iff]; simp; omega)
set_option maxHeartbeats 1000000 in
theorem many_any (A : Option Addr) (l : List Int) (c : Nat) (w : World) (hr : ReadsInt w .i64 A l.length l) :
    Calls Try.prog 14 #[.slice A l.length c] w fun e w' => e = .returned (.int .i64 (manyZ l)) ∧ w = w' := by
  have HR := Lib.hid hr
  have hl : l.length ≤ 9223372036854775807 := hr.2.1
  clear hr
  go_enter Try.func14, Try.ntmps14
  go_wp2
  go_loopg [3, 8] l.length (fun k s q wr => ∃ i : Nat, i ≤ l.length ∧ k = l.length - i ∧ q = .int .i64 i ∧ s = .int .i64 (if rightB l = true then pos (l.take i) else 0) ∧ wr = w)
  case atStart => exact ⟨0, by omega, by omega, rfl, by split <;> rfl, rfl⟩
  case round =>
    obtain ⟨i, hi, hk, rfl, rfl, rfl⟩ := hrel
    have HK := Lib.hid hk
    clear hk
    have hp := pos_bd (l.take i)
    rw [List.length_take] at hp
    have hp2 : 0 ≤ pos (l.take i) ∧ pos (l.take i) ≤ i := by omega
    clear hp
    by_cases hlt : i < l.length
    · obtain ⟨ad, hA, hc⟩ := reads_cell HR.out i hlt
      subst hA
      have HT := Lib.hid (take_snoc' l i hlt)
      generalize hX : l.getD i 0 = X at hc HT
      clear hX
      have HP : Hid (pos (l.take (i + 1)) = pos (l.take i) + if 0 < X then 1 else 0) := by rw [HT.out]; exact pos_snoc _ _
      generalize hS : pos (l.take i) = S at hp2 HP ⊢
      clear hS
      cases hb : rightB l
      all_goals
        by_cases hx : 0 < X
        all_goals
          try rw [if_pos rfl]
          try rw [if_neg (by simp)]
          go_wp2_with (go_at_call 12; refine (right_any _ l _ _ HR.out).mono ?_; rintro e w' ⟨rfl, rfl⟩)
          go_roundg (l.length - (i + 1))
          case measure => have := HK.out; omega
          case rel => exact ⟨i + 1, by omega, rfl, by go_num, by rw [HP.out]; simp only [hb, if_true, Bool.false_eq_true, if_false] <;> first | rfl | (congr 1; split <;> omega), rfl⟩
    · obtain rfl : i = l.length := by omega
      rw [take_all]
      have E := Lib.hid (show manyZ l = if rightB l = true then pos l else 0 from rfl)
      generalize (if rightB l = true then pos l else 0) = z at E ⊢
      go_wp2
      go_ret
      exact ⟨by rw [E.out]; rfl, rfl⟩
set_option maxHeartbeats 1000000 in
theorem total_any (A : Option Addr) (l : List Int) (c : Nat) (w : World) (hr : ReadsInt w .i64 A l.length l) :
    Calls Try.prog 16 #[.slice A l.length c] w fun e w' => e = .returned (.int .i64 (totZ l)) ∧ w = w' := by
  have HR := Lib.hid hr
  have hl : l.length ≤ 9223372036854775807 := hr.2.1
  clear hr
  cases hb : rightB l
  · have E : Hid (totZ l = 0) := by unfold totZ; rw [hb]; exact rfl
    go_enter Try.func16, Try.ntmps16
    go_wp2_with (go_at_call 12; refine (right_any _ l _ _ HR.out).mono ?_; rintro e w' ⟨rfl, rfl⟩)
    go_ret
    exact ⟨by rw [E.out]; rfl, rfl⟩
  · have E : Hid (totZ l = l.sum) := by unfold totZ; rw [hb]; exact rfl
    have HSO := Lib.hid (fun i => sofar_take hb i)
    go_enter Try.func16, Try.ntmps16
    go_wp2_with (go_at_call 12; refine (right_any _ l _ _ HR.out).mono ?_; rintro e w' ⟨rfl, rfl⟩)
    go_loopg [3, 11] l.length (fun k s q wr => ∃ i : Nat, i ≤ l.length ∧ k = l.length - i ∧ q = .int .i64 i ∧ s = .int .i64 (l.take i).sum ∧ wr = w)
    case atStart => exact ⟨0, by omega, by omega, rfl, rfl, rfl⟩
    case round =>
      obtain ⟨i, hi, hk, rfl, rfl, rfl⟩ := hrel
      have HK := Lib.hid hk
      clear hk
      obtain ⟨s0, s1⟩ := sofar_bd (HSO.out i)
      by_cases hlt : i < l.length
      · obtain ⟨ad, hA, hc⟩ := reads_cell HR.out i hlt
        subst hA
        obtain ⟨t0, t1⟩ := sofar_bd (HSO.out (i + 1))
        have HT := Lib.hid (take_snoc' l i hlt)
        generalize hX : l.getD i 0 = X at hc HT
        clear hX
        have HSUM := Lib.hid (show (l.take (i + 1)).sum = (l.take i).sum + X by rw [HT.out, List.sum_append]; simp)
        rw [HSUM.out] at t0 t1
        generalize hS : (l.take i).sum = S at s0 s1 t0 t1 HSUM ⊢
        clear hS
        go_wp2
        go_roundg (l.length - (i + 1))
        case measure => have := HK.out; omega
        case rel => exact ⟨i + 1, by omega, rfl, by go_num, by rw [HSUM.out], rfl⟩
      · obtain rfl : i = l.length := by omega
        rw [take_all]
        go_wp2
        go_ret
        exact ⟨by rw [E.out]; rfl, rfl⟩
def eqL (a b : List Int) : Bool := decide (a = b)
theorem eqL_self (a : List Int) : eqL a a = true := by simp [eqL]
theorem eqL_ne {a b : List Int} (h : a ≠ b) : eqL a b = false := by simp [eqL, h]
set_option maxHeartbeats 1000000 in
theorem ints_any (A B : Option Addr) (l m : List Int) (c d : Nat) (w : World) (hr : ReadsInt w .i64 A l.length l) (hq : ReadsInt w .i64 B m.length m) :
    Calls Try.prog 9 #[.slice A l.length c, .slice B m.length d] w fun e w' => e = .returned (.bool (eqL l m)) ∧ Below w.heap.size w w' := by
  have HR := Lib.hid hr
  have HQ := Lib.hid hq
  have hl : l.length ≤ 9223372036854775807 := hr.2.1
  have hm : m.length ≤ 9223372036854775807 := hq.2.1
  clear hr hq
  by_cases hlen : l.length = m.length
  · have HLEN := Lib.hid hlen
    rw [← hlen] at HQ ⊢
    clear hlen hm
    go_enter Try.func9, Try.ntmps9
    go_wp2
    go_loopg [5] l.length (fun k q wr => ∃ i : Nat, i ≤ l.length ∧ k = l.length - i ∧ q = .int .i64 i ∧ (∀ j, j < i → l.getD j 0 = m.getD j 0) ∧ Below w.heap.size w wr)
    case atStart => exact ⟨0, by omega, by omega, rfl, by omega, Below.refl _ _⟩
    case round =>
      obtain ⟨i, hi, hk, rfl, he, hb⟩ := hrel
      have HK := Lib.hid hk
      have HE := Lib.hid he
      have HB := Lib.hid hb
      clear hk he
      by_cases hlt : i < l.length
      · obtain ⟨ad, hA, hc⟩ := reads_cell HR.out i hlt
        obtain ⟨bd, hA', hc'⟩ := reads_cell HQ.out i hlt
        subst hA hA'
        replace hc := pw_cell_below HB.out hc
        replace hc' := pw_cell_below HB.out hc'
        clear hb
        by_cases hx : l.getD i 0 = m.getD i 0
        · have HX := Lib.hid hx
          rw [← hx] at hc'
          clear hx
          generalize l.getD i 0 = X at hc hc'
          have i0 : 0 ≤ (i : Int) := by omega
          have i1 : (i : Int) < (l.length : Int) := by omega
          go_wp2
          go_quiet (fail)
          go_wp2
          go_roundg (l.length - (i + 1))
          case measure => have := HK.out; omega
          case rel =>
            refine ⟨i + 1, by omega, rfl, by go_num, fun j hj => ?_, pw_below_drewN HB.out _⟩
            rcases Nat.lt_or_ge j i with h | h
            · exact HE.out j h
            · obtain rfl : j = i := by omega
              exact HX.out
        · have E := Lib.hid (eqL_ne (a := l) (b := m) (fun h => hx (by rw [h])))
          generalize l.getD i 0 = X at hc hx
          generalize m.getD i 0 = Y at hc' hx
          have hx1 : (X == Y) = false := by simpa using hx
          have hx2 : (X != Y) = true := by simpa using hx
          clear hx
          have i0 : 0 ≤ (i : Int) := by omega
          have i1 : (i : Int) < (l.length : Int) := by omega
          go_wp2
          go_quiet (fail)
          go_wp2
          go_ret
          exact ⟨by rw [E.out]; rfl, pw_below_drewN HB.out _⟩
      · have E := Lib.hid (show eqL l m = true by
          rw [show l = m from ext_getD HLEN.out (fun j hj => HE.out j (by omega))]; exact eqL_self m)
        go_wp2
        go_ret
        exact ⟨by rw [E.out]; rfl, HB.out⟩
  · have E := Lib.hid (eqL_ne (a := l) (b := m) (fun h => hlen (by rw [h])))
    go_enter Try.func9, Try.ntmps9
    go_wp2
    go_ret
    exact ⟨by rw [E.out]; rfl, Below.refl _ _⟩
set_option maxHeartbeats 2000000 in
theorem add_no (A B : Option Addr) (l m : List Int) (c d : Nat) (w : World) (hr : ReadsInt w .i64 A l.length l) (hq : ReadsInt w .i64 B m.length m) (hno : rightB l = false ∨ rightB l = true ∧ rightB m = false) :
    Calls Try.prog 18 #[.slice A l.length c, .slice B m.length d] w fun e w' => e = .returned (.tuple #[.slice none 0 0, .bool false]) ∧ w = w' := by
  have HR := Lib.hid hr
  have HQ := Lib.hid hq
  clear hr hq
  rcases hno with h | ⟨h, h'⟩
  all_goals
    go_enter Try.func18, Try.ntmps18
    go_wp2_with (go_at_call 12; first | ((with_reducible refine (right_any A l _ _ HR.out).mono ?_); rintro e w' ⟨rfl, rfl⟩) | ((with_reducible refine (right_any B m _ _ HQ.out).mono ?_); rintro e w' ⟨rfl, rfl⟩))
    go_ret2
    exact ⟨rfl, rfl⟩
/-- the first i sums, then zeros -/
def addTo (l m : List Int) (i : Nat) : List Int := (addL l m).take i ++ zeros (256 - i)
theorem addTo_len (l m : List Int) (i : Nat) (h : i ≤ 256) : (addTo l m i).length = 256 := by
  unfold addTo zeros; rw [List.length_append, List.length_take, addL_len, List.length_replicate]; omega
theorem addTo_0 (l m : List Int) : addTo l m 0 = zeros 256 := rfl
theorem addTo_all (l m : List Int) : addTo l m 256 = addL l m := by
  unfold addTo zeros; rw [List.take_of_length_le (by rw [addL_len]; omega)]; simp
theorem addTo_set (l m : List Int) (i : Nat) (h : i < 256) : (addTo l m i).set i (l.getD i 0 + m.getD i 0) = addTo l m (i + 1) := by
  rw [← addL_get l m i h]
  unfold addTo
  have hl : ((addL l m).take i).length = i := by rw [List.length_take, addL_len]; omega
  rw [List.set_append_right _ _ (by omega), hl, Nat.sub_self, take_snoc' _ i (by rw [addL_len]; exact h)]
  obtain ⟨r, hr⟩ : ∃ r, 256 - i = r + 1 := ⟨256 - i - 1, by omega⟩
  rw [hr, show 256 - (i + 1) = r by omega]
  simp [zeros, List.replicate_succ]
def AddPost (l m : List Int) (w : World) (e : Ending) (w' : World) : Prop :=
  (l.sum + m.sum ≤ 1073741824 → ∃ v, e = .returned (.tuple #[v, .bool true]) ∧ w'.ownsRow w.heap.size 3 1 v 256 (nums .i64 (addL l m))) ∧
  (¬ l.sum + m.sum ≤ 1073741824 → e = .returned (.tuple #[.slice none 0 0, .bool false])) ∧ Below w.heap.size w w'
set_option maxHeartbeats 400000 in
set_option maxRecDepth 20000 in
theorem add_made (A B : Option Addr) (l m : List Int) (c d : Nat) (w : World) (hr : ReadsInt w .i64 A l.length l) (hq : ReadsInt w .i64 B m.length m) (h1 : rightB l = true) (h2 : rightB m = true) :
    Calls Try.prog 18 #[.slice A l.length c, .slice B m.length d] w (AddPost l m w) := by
  have HL : l.length = 256 := ((rightB_iff l).1 h1).1
  have HM : m.length = 256 := ((rightB_iff m).1 h2).1
  have H1 := (rightB_iff l).1 h1
  have H2 := (rightB_iff m).1 h2
  have hbl : ∀ i, i < 256 → 0 ≤ l.getD i 0 ∧ l.getD i 0 ≤ 1073741824 := fun i hi => by
    have a := H1.2.1 _ (getD_mem (l := l) i (by omega)); have b := sofar_take h1 (i + 1)
    have e := take_snoc' l i (by omega); have b2 := b.2; rw [e, List.sum_append] at b2; simp at b2
    have := (sofar_bd (sofar_take h1 i)).1; have : (l.take i).sum + l.getD i 0 ≤ 1073741824 := by simpa using b2
    omega
  have hbm : ∀ i, i < 256 → 0 ≤ m.getD i 0 ∧ m.getD i 0 ≤ 1073741824 := fun i hi => by
    have a := H2.2.1 _ (getD_mem (l := m) i (by omega)); have b := sofar_take h2 (i + 1)
    have e := take_snoc' m i (by omega); have b2 := b.2; rw [e, List.sum_append] at b2; simp at b2
    have := (sofar_bd (sofar_take h2 i)).1; have : (m.take i).sum + m.getD i 0 ≤ 1073741824 := by simpa using b2
    omega
  have HBL := Lib.hid hbl
  have HBM := Lib.hid hbm
  have HSUM := Lib.hid (addL_right l m h1 h2)
  have HR := Lib.hid hr
  have HQ := Lib.hid hq
  replace HL := Lib.hid HL
  replace HM := Lib.hid HM
  clear hr hq H1 H2 hbl hbm
  have hmk := make_256
  go_enter Try.func18, Try.ntmps18
  go_wp2_with (go_at_call 12; first | ((with_reducible refine (right_any A l _ _ HR.out).mono ?_); rintro e w' ⟨rfl, rfl⟩) | ((with_reducible refine (right_any B m _ _ HQ.out).mono ?_); rintro e w' ⟨rfl, rfl⟩))
  clear hmk h1 h2
  go_loopg [19] 256 (fun k q wr => ∃ i : Nat, i ≤ 256 ∧ k = 256 - i ∧ q = .int .i64 i ∧ wr.heap[w.heap.size]? = some (.cells (arrI (addTo l m i)) 3 (0, 0)) ∧ Below w.heap.size w wr)
  case atStart => exact ⟨0, by omega, by omega, rfl, by rw [addTo_0]; exact heap_alloc_new w _, (Below.refl _ _).alloc (Nat.le_refl _) _⟩
  case round =>
    obtain ⟨i, hi, hk, rfl, hblk, hbel⟩ := hrel
    have HK := Lib.hid hk
    have HB := Lib.hid hbel
    have HBLK := Lib.hid hblk
    clear hk hbel hblk
    by_cases hlt : i < 256
    · obtain ⟨ad, hA, hc⟩ := reads_cell HR.out i (by have := HL.out; omega)
      obtain ⟨bd, hA', hc'⟩ := reads_cell HQ.out i (by have := HM.out; omega)
      subst hA hA'
      replace hc := pw_cell_below HB.out hc
      replace hc' := pw_cell_below HB.out hc'
      have x0 := HBL.out i hlt
      have y0 := HBM.out i hlt
      have HS := Lib.hid (addTo_set l m i hlt)
      generalize l.getD i 0 = X at hc x0 HS
      generalize m.getD i 0 = Y at hc' y0 HS
      have hg := blk_cell HBLK.out i
      rw [arrI_get _ _ (by rw [addTo_len _ _ _ hi]; exact hlt)] at hg
      have hf := blk_frozen HBLK.out i
      have i0 : 0 ≤ (i : Int) := by omega
      have i1 : (i : Int) < 256 := by omega
      have i2 : (i : Int) < (l.length : Int) := by have := HL.out; omega
      have i3 : (i : Int) < (m.length : Int) := by have := HM.out; omega
      go_wp2
      go_still_tail 12, (by kernel_rfl)
      change wpList _ _ _ _ _ wr.drew
      go_wp2
      go_roundg (256 - (i + 1))
      case measure => have := HK.out; omega
      case rel => exact ⟨i + 1, by omega, rfl, by go_num, by rw [← HS.out, ← arrI_set]; exact blk_set HBLK.out _ _, (HB.out.setCell (Nat.le_refl _) _).drew⟩
    · obtain rfl : i = 256 := by omega
      rw [addTo_all] at HBLK
      have HLEN := Lib.hid (addL_len l m)
      have HRA : ReadsInt wr .i64 (some ⟨w.heap.size, 0, none⟩) (addL l m).length (addL l m) := by
        rw [addL_len]; exact arr_reads HBLK.out (addL_len l m) (by omega)
      rw [HLEN.out] at HRA
      have HO : wr.ownsRow w.heap.size 3 1 (.slice (some ⟨w.heap.size, 0, none⟩) 256 256) 256 (nums .i64 (addL l m)) :=
        ⟨by rw [nums_length, addL_len], .inr ⟨_, 256, _, rfl, Nat.le_refl _, HBLK.out, by omega, by simp [maxLen], by simp [arrI, nums, addL_len], by rw [arrI_toList]; exact List.take_of_length_le (by rw [nums_length, addL_len]; omega)⟩⟩
      replace HO := Lib.hid HO
      replace HRA := Lib.hid HRA
      have HC := right_any (some ⟨w.heap.size, 0, none⟩) (addL l m) 256 wr (by rw [HLEN.out]; exact HRA.out)
      rw [HLEN.out] at HC
      by_cases hs : l.sum + m.sum ≤ 1073741824
      · rw [HSUM.out, decide_eq_true hs] at HC
        have HCC := Lib.hid HC
        clear HC
        go_wp2_with (go_at_call 12; (with_reducible refine HCC.out.mono ?_); rintro e w' ⟨rfl, rfl⟩)
        go_ret2
        exact ⟨fun _ => ⟨_, rfl, HO.out⟩, fun h => absurd hs h, HB.out⟩
      · rw [HSUM.out, decide_eq_false hs] at HC
        have HCC := Lib.hid HC
        clear HC
        have HNS := Lib.hid hs
        clear hs
        go_wp2_with (go_at_call 12; (with_reducible refine HCC.out.mono ?_); rintro e w' ⟨rfl, rfl⟩)
        go_ret2
        exact ⟨fun h => absurd h (by have := HNS.out; omega), fun _ => rfl, HB.out⟩
set_option maxHeartbeats 1000000 in
theorem rright_any (A : Option Addr) (l : List Int) (c : Nat) (w : World) (hr : ReadsInt w .i64 A l.length l) (hbd : ∀ x, x ∈ l → -9223372036854775808 ≤ x ∧ x ≤ 9223372036854775807) :
    Calls Try.prog 13 #[.slice A l.length c] w fun e w' => e = .returned (.bool (rightB l)) ∧ Below w.heap.size w w' := by
  have HR := Lib.hid hr
  have hl : l.length ≤ 9223372036854775807 := hr.2.1
  clear hr
  by_cases hlen : l.length = 256
  · have HL := Lib.hid hlen
    have hl2 : (l.length : Int) = 256 := by omega
    clear hlen hl
    go_enter Try.func13, Try.ntmps13
    go_wp2
    go_loopg [3, 4] 256 (fun k s q wr => ∃ i : Nat, i ≤ 256 ∧ k = 256 - i ∧ q = .int .i64 i ∧ s = .int .i64 (l.take i).sum ∧ (∀ x, x ∈ l.take i → 0 ≤ x ∧ x ≤ 1073741824) ∧ 0 ≤ (l.take i).sum ∧ (l.take i).sum ≤ i * 1073741824 ∧ Below w.heap.size w wr)
    case atStart => exact ⟨0, by omega, by omega, rfl, rfl, by simp, by simp, by simp, Below.refl _ _⟩
    case round =>
      obtain ⟨i, hi, hk, rfl, rfl, hs, s0, s1, hbel⟩ := hrel
      have HK := Lib.hid hk
      have HB := Lib.hid hbel
      have HS := Lib.hid hs
      clear hk hs hbel
      by_cases hlt : i < 256
      · obtain ⟨ad, hA, hc⟩ := reads_cell HR.out i (by have := HL.out; omega)
        subst hA
        replace hc := pw_cell_below HB.out hc
        have HT := Lib.hid (take_snoc' l i (by have := HL.out; omega))
        have HM := Lib.hid (getD_mem (l := l) i (by have := HL.out; omega))
        generalize hX : l.getD i 0 = X at hc HT HM
        clear hX
        have xb := hbd X HM.out
        have HSUM := Lib.hid (show (l.take (i + 1)).sum = (l.take i).sum + X by rw [HT.out, List.sum_append]; simp)
        generalize hS : (l.take i).sum = S at s0 s1 HSUM ⊢
        clear hS
        have i0 : 0 ≤ (i : Int) := by omega
        have i1 : (i : Int) < 256 := by omega
        have i2 : (i : Int) < (l.length : Int) := by omega
        by_cases hx : X < 0
        · have e := Lib.hid (rightB_false l (fun h => by have := h.2.1 X HM.out; omega))
          have hx' : decide (X < 0) = true := by simpa using hx
          go_wp2
          go_ret
          exact ⟨by rw [e.out]; rfl, HB.out⟩
        · have hx' : decide (X < 0) = false := by simpa using hx
          by_cases hy : 1073741824 < X
          · have e := Lib.hid (rightB_false l (fun h => by
              have h2 := sum_take_le h.2.1 (i + 1); have h3 := sum_nonneg (l := l.take i) (fun x hx => (HS.out x hx).1)
              rw [HT.out, List.sum_append] at h2; simp at h2; omega))
            go_wp2
            go_ret
            exact ⟨by rw [e.out]; rfl, HB.out⟩
          · go_wp2
            go_roundg (256 - (i + 1))
            case measure => have := HK.out; omega
            case rel =>
              refine ⟨i + 1, by omega, rfl, by go_num, by rw [HSUM.out], fun x hx => ?_, by rw [HSUM.out]; omega, by rw [HSUM.out]; omega, HB.out⟩
              rw [HT.out] at hx
              rcases List.mem_append.1 hx with hx | hx
              · exact HS.out x hx
              · simp at hx; omega
      · obtain rfl : i = 256 := by omega
        have ht : l.take 256 = l := List.take_of_length_le (by have := HL.out; omega)
        rw [ht] at HS s0 s1 ⊢
        have E := Lib.hid (show rightB l = decide (l.sum ≤ 1073741824) by
          rw [Bool.eq_iff_iff, rightB_iff, decide_eq_true_iff]
          exact ⟨fun h => h.2.2, fun h => ⟨HL.out, fun x hx => (HS.out x hx).1, h⟩⟩)
        generalize l.sum = S at E s0 s1
        go_wp2
        go_ret
        exact ⟨by rw [E.out]; rfl, HB.out⟩
  · have E := Lib.hid (rightB_false l (fun h => hlen h.1))
    have hl2 : ¬ (l.length : Int) = 256 := by omega
    go_enter Try.func13, Try.ntmps13
    go_wp2
    go_ret
    exact ⟨by rw [E.out]; rfl, Below.refl _ _⟩
set_option maxHeartbeats 1000000 in
theorem rmany_any (A : Option Addr) (l : List Int) (c : Nat) (w : World) (hr : ReadsInt w .i64 A l.length l) (hbd : ∀ x, x ∈ l → -9223372036854775808 ≤ x ∧ x ≤ 9223372036854775807) :
    Calls Try.prog 15 #[.slice A l.length c] w fun e w' => e = .returned (.int .i64 (manyZ l)) ∧ Below w.heap.size w w' := by
  have HR := Lib.hid hr
  have hl : l.length ≤ 9223372036854775807 := hr.2.1
  have HC := Lib.hid (rright_any A l c w hr hbd)
  clear hr hbd
  cases hb : rightB l
  · have E := Lib.hid (show manyZ l = 0 by unfold manyZ; rw [hb]; rfl)
    go_enter Try.func15, Try.ntmps15
    go_wp2_with (go_at_call 13; (with_reducible refine HC.out.mono ?_); rintro e w' ⟨rfl, hb'⟩)
    go_loopg [3, 5] 0 (fun k s q wr => s = .int .i64 0 ∧ q = .int .i64 0 ∧ wr = w')
    case atStart => exact ⟨rfl, rfl, rfl⟩
    case round =>
      obtain ⟨rfl, rfl, rfl⟩ := hrel
      by_cases h0 : (0 : Int) < (l.length : Int)
      all_goals
        go_wp2
        go_ret
        exact ⟨by rw [E.out]; rfl, hb'⟩
  · have E := Lib.hid (show manyZ l = pos l by unfold manyZ; rw [hb]; rfl)
    go_enter Try.func15, Try.ntmps15
    go_wp2_with (go_at_call 13; (with_reducible refine HC.out.mono ?_); rintro e w' ⟨rfl, hb'⟩)
    have HB := Lib.hid hb'
    clear hb'
    go_loopg [3, 5] l.length (fun k s q wr => ∃ i : Nat, i ≤ l.length ∧ k = l.length - i ∧ q = .int .i64 i ∧ s = .int .i64 (pos (l.take i)) ∧ wr = w')
    case atStart => exact ⟨0, by omega, by omega, rfl, rfl, rfl⟩
    case round =>
      obtain ⟨i, hi, hk, rfl, rfl, rfl⟩ := hrel
      have HK := Lib.hid hk
      clear hk
      have hp := pos_bd (l.take i)
      rw [List.length_take] at hp
      have hp2 : 0 ≤ pos (l.take i) ∧ pos (l.take i) ≤ i := by omega
      clear hp
      by_cases hlt : i < l.length
      · obtain ⟨ad, hA, hc⟩ := reads_cell HR.out i hlt
        subst hA
        replace hc := pw_cell_below HB.out hc
        have HT := Lib.hid (take_snoc' l i hlt)
        generalize hX : l.getD i 0 = X at hc HT
        clear hX
        have HP := Lib.hid (show pos (l.take (i + 1)) = pos (l.take i) + if 0 < X then 1 else 0 by rw [HT.out]; exact pos_snoc _ _)
        generalize hS : pos (l.take i) = S at hp2 HP ⊢
        clear hS
        by_cases hx : 0 < X
        all_goals
          go_wp2
          go_roundg (l.length - (i + 1))
          case measure => have := HK.out; omega
          case rel => exact ⟨i + 1, by omega, rfl, by go_num, by rw [HP.out]; first | (rw [if_pos hx]) | (rw [if_neg (by omega)]; simp), rfl⟩
      · obtain rfl : i = l.length := by omega
        rw [take_all]
        go_wp2
        go_ret
        exact ⟨by rw [E.out]; rfl, HB.out⟩
set_option maxHeartbeats 1000000 in
theorem rtotal_any (A : Option Addr) (l : List Int) (c : Nat) (w : World) (hr : ReadsInt w .i64 A l.length l) (hbd : ∀ x, x ∈ l → -9223372036854775808 ≤ x ∧ x ≤ 9223372036854775807) :
    Calls Try.prog 17 #[.slice A l.length c] w fun e w' => e = .returned (.int .i64 (totZ l)) ∧ Below w.heap.size w w' := by
  have HR := Lib.hid hr
  have hl : l.length ≤ 9223372036854775807 := hr.2.1
  have HC := Lib.hid (rright_any A l c w hr hbd)
  clear hr hbd
  cases hb : rightB l
  · have E := Lib.hid (show totZ l = 0 by unfold totZ; rw [hb]; rfl)
    go_enter Try.func17, Try.ntmps17
    go_wp2_with (go_at_call 13; (with_reducible refine HC.out.mono ?_); rintro e w' ⟨rfl, hb'⟩)
    go_loopg [3, 5] 0 (fun k s q wr => s = .int .i64 0 ∧ q = .int .i64 0 ∧ wr = w')
    case atStart => exact ⟨rfl, rfl, rfl⟩
    case round =>
      obtain ⟨rfl, rfl, rfl⟩ := hrel
      by_cases h0 : (0 : Int) < (l.length : Int)
      all_goals
        go_wp2
        go_ret
        exact ⟨by rw [E.out]; rfl, hb'⟩
  · have E := Lib.hid (show totZ l = l.sum by unfold totZ; rw [hb]; rfl)
    have HSO := Lib.hid (fun i => sofar_take hb i)
    go_enter Try.func17, Try.ntmps17
    go_wp2_with (go_at_call 13; (with_reducible refine HC.out.mono ?_); rintro e w' ⟨rfl, hb'⟩)
    have HB := Lib.hid hb'
    clear hb'
    go_loopg [3, 5] l.length (fun k s q wr => ∃ i : Nat, i ≤ l.length ∧ k = l.length - i ∧ q = .int .i64 i ∧ s = .int .i64 (l.take i).sum ∧ wr = w')
    case atStart => exact ⟨0, by omega, by omega, rfl, rfl, rfl⟩
    case round =>
      obtain ⟨i, hi, hk, rfl, rfl, rfl⟩ := hrel
      have HK := Lib.hid hk
      clear hk
      obtain ⟨s0, s1⟩ := sofar_bd (HSO.out i)
      by_cases hlt : i < l.length
      · obtain ⟨ad, hA, hc⟩ := reads_cell HR.out i hlt
        subst hA
        replace hc := pw_cell_below HB.out hc
        obtain ⟨t0, t1⟩ := sofar_bd (HSO.out (i + 1))
        have HT := Lib.hid (take_snoc' l i hlt)
        generalize hX : l.getD i 0 = X at hc HT
        clear hX
        have HSUM := Lib.hid (show (l.take (i + 1)).sum = (l.take i).sum + X by rw [HT.out, List.sum_append]; simp)
        rw [HSUM.out] at t0 t1
        generalize hS : (l.take i).sum = S at s0 s1 t0 t1 HSUM ⊢
        clear hS
        go_wp2
        go_roundg (l.length - (i + 1))
        case measure => have := HK.out; omega
        case rel => exact ⟨i + 1, by omega, rfl, by go_num, by rw [HSUM.out], rfl⟩
      · obtain rfl : i = l.length := by omega
        rw [take_all]
        go_wp2
        go_ret
        exact ⟨by rw [E.out]; rfl, HB.out⟩
/-- the counts of the values below v, then zeros -/
def cntTo (l : List Int) (v : Nat) : List Int := (cnt l).take v ++ zeros (256 - v)
theorem cntTo_len (l : List Int) (v : Nat) (h : v ≤ 256) : (cntTo l v).length = 256 := by
  unfold cntTo zeros; rw [List.length_append, List.length_take, cnt_len, List.length_replicate]; omega
theorem cntTo_get (l : List Int) (v : Nat) (h : v < 256) : (cntTo l v).getD v 0 = 0 := by
  unfold cntTo
  have hl : ((cnt l).take v).length = v := by rw [List.length_take, cnt_len]; omega
  rw [List.getD_eq_getElem?_getD, List.getElem?_append_right (by omega), ← List.getD_eq_getElem?_getD, zeros_get]
/-- of the value v so far -/
def cntIn (l : List Int) (v i : Nat) : List Int := (cntTo l v).set v (((l.take i).count (v : Int) : Nat) : Int)
theorem cntIn_len (l : List Int) (v i : Nat) (h : v ≤ 256) : (cntIn l v i).length = 256 := by unfold cntIn; rw [List.length_set, cntTo_len l v h]
theorem cntIn_0 (l : List Int) (v : Nat) (h : v < 256) : cntIn l v 0 = cntTo l v := by
  apply ext_getD (by rw [cntIn_len _ _ _ (by omega), cntTo_len _ _ (by omega)])
  intro j hj
  unfold cntIn
  rw [getD_set _ _ _ _ (by rw [cntTo_len _ _ (by omega)]; exact h)]
  by_cases e : v = j
  · subst e; rw [if_pos rfl, cntTo_get _ _ h]; simp
  · rw [if_neg e]
theorem cntIn_get (l : List Int) (v i : Nat) (h : v < 256) : (cntIn l v i).getD v 0 = (((l.take i).count (v : Int) : Nat) : Int) := by
  unfold cntIn; rw [getD_set _ _ _ _ (by rw [cntTo_len _ _ (by omega)]; exact h), if_pos rfl]
theorem cntIn_all (l : List Int) (v : Nat) (h : v < 256) : cntIn l v l.length = cntTo l (v + 1) := by
  unfold cntIn cntTo
  rw [take_all]
  have hl : ((cnt l).take v).length = v := by rw [List.length_take, cnt_len]; omega
  rw [List.set_append_right _ _ (by omega), hl, Nat.sub_self, take_snoc' _ v (by rw [cnt_len]; exact h), cnt_get _ _ h]
  obtain ⟨r, hr⟩ : ∃ r, 256 - v = r + 1 := ⟨256 - v - 1, by omega⟩
  rw [hr, show 256 - (v + 1) = r by omega]
  simp [zeros, List.replicate_succ]
theorem cntIn_hit (l : List Int) (v i : Nat) (h : v < 256) (hi : i < l.length) (e : l.getD i 0 = v) : (cntIn l v i).set v ((cntIn l v i).getD v 0 + 1) = cntIn l v (i + 1) := by
  rw [cntIn_get _ _ _ h]
  unfold cntIn
  rw [List.set_set, take_snoc' _ i hi, List.count_append, e]; simp
theorem cntIn_miss (l : List Int) (v i : Nat) (hi : i < l.length) (e : ¬ l.getD i 0 = v) : cntIn l v i = cntIn l v (i + 1) := by
  unfold cntIn
  rw [take_snoc' _ i hi, List.count_append, List.count_singleton]
  have : (l.getD i 0 == (v : Int)) = false := by simpa using e
  rw [this]; simp
set_option maxHeartbeats 2000000 in
set_option maxRecDepth 20000 in
theorem rof_any (A : Option Addr) (l : List Int) (c : Nat) (w : World) (hr : ReadsInt w .u8 A l.length l) (hb : BytesOk l) :
    Calls Try.prog 11 #[.slice A l.length c] w fun e w' => ∃ v, e = .returned v ∧ w'.ownsRow w.heap.size 3 1 v 256 (nums .i64 (cnt l)) ∧ Below w.heap.size w w' := by
  have hmk := make_256
  have HR := Lib.hid hr
  have hl : l.length ≤ 9223372036854775807 := hr.2.1
  have HBO := Lib.hid hb
  clear hr hb
  go_enter Try.func11, Try.ntmps11
  go_wp2
  clear hmk
  go_loopg [4] 256 (fun k q wr => ∃ v : Nat, v ≤ 256 ∧ k = 256 - v ∧ q = .int .i64 v ∧ wr.heap[w.heap.size]? = some (.cells (arrI (cntTo l v)) 3 (0, 0)) ∧ Below w.heap.size w wr)
  case atStart => exact ⟨0, by omega, by omega, rfl, heap_alloc_new w _, (Below.refl _ _).alloc (Nat.le_refl _) _⟩
  case round =>
    obtain ⟨v, hv, hk, rfl, hblk, hbel⟩ := hrel
    by_cases hlt : v < 256
    · have HK := Lib.hid hk
      have HB0 := Lib.hid hbel
      have HBLK0 := Lib.hid hblk
      clear hk hbel hblk
      go_wp2
      go_loopg [5] l.length (fun k q wr => ∃ i : Nat, i ≤ l.length ∧ k = l.length - i ∧ q = .int .i64 i ∧ wr.heap[w.heap.size]? = some (.cells (arrI (cntIn l v i)) 3 (0, 0)) ∧ Below w.heap.size w wr)
      case atStart => exact ⟨0, by omega, by omega, rfl, by rw [cntIn_0 l v hlt]; exact HBLK0.out, HB0.out⟩
      case round =>
        obtain ⟨i, hi, hk, rfl, hblk, hbel⟩ := hrel
        have HK1 := Lib.hid hk
        have HB := Lib.hid hbel
        have HBLK := Lib.hid hblk
        clear hk hbel hblk HB0 HBLK0
        by_cases hil : i < l.length
        · obtain ⟨ad, hA, hc⟩ := reads_cell HR.out i hil
          subst hA
          replace hc := pw_cell_below HB.out hc
          have xb := HBO.out.at i hil
          have hg := blk_cell HBLK.out v
          rw [arrI_get _ _ (by rw [cntIn_len _ _ _ hv]; exact hlt)] at hg
          have hf := blk_frozen HBLK.out v
          have hbd : 0 ≤ (cntIn l v i).getD v 0 ∧ (cntIn l v i).getD v 0 ≤ i := by
            rw [cntIn_get _ _ _ hlt]
            have := List.count_le_length (a := (v : Int)) (l := l.take i)
            rw [List.length_take] at this; omega
          by_cases hx : l.getD i 0 = v
          · have HS := Lib.hid (cntIn_hit l v i hlt hil hx)
            rw [hx] at hc
            clear hx xb
            generalize (cntIn l v i).getD v 0 = Y at hg hbd HS
            go_wp2
            go_roundg (l.length - (i + 1))
            case measure => have := HK1.out; omega
            case rel => exact ⟨i + 1, by omega, rfl, by go_num, by rw [← HS.out, ← arrI_set]; exact blk_set HBLK.out _ _, HB.out.setCell (Nat.le_refl _) _⟩
          · have HS := Lib.hid (cntIn_miss l v i hil hx)
            generalize l.getD i 0 = X at hc xb hx
            have hx1 : (X == (v : Int)) = false := by simpa using hx
            clear hx hg hf hbd
            go_wp2
            go_roundg (l.length - (i + 1))
            case measure => have := HK1.out; omega
            case rel => exact ⟨i + 1, by omega, rfl, by go_num, by rw [← HS.out]; exact HBLK.out, HB.out⟩
        · obtain rfl : i = l.length := by omega
          rw [cntIn_all l v hlt] at HBLK
          go_wp2
          go_roundg (256 - (v + 1))
          case measure => have := HK.out; omega
          case rel => exact ⟨v + 1, by omega, rfl, by go_num, HBLK.out, HB.out⟩
    · obtain rfl : v = 256 := by omega
      have HB := Lib.hid hbel
      have hbe : cntTo l 256 = cnt l := by unfold cntTo zeros; rw [List.take_of_length_le (by rw [cnt_len]; omega)]; simp
      rw [hbe] at hblk
      have HBLK := Lib.hid hblk
      clear hbel hblk hk hbe
      go_wp2
      go_ret
      exact ⟨_, rfl, ⟨by rw [nums_length, cnt_len], .inr ⟨_, 256, _, rfl, Nat.le_refl _, HBLK.out, by omega, by simp [maxLen], by simp [arrI, nums, cnt_len], by rw [arrI_toList]; exact List.take_of_length_le (by rw [nums_length, cnt_len]; omega)⟩⟩, HB.out⟩
/-! the same, at a length that is told apart -/
theorem of_at (A : Option Addr) (n : Nat) (l : List Int) (c : Nat) (w : World) (hn : l.length = n) (hr : ReadsInt w .u8 A n l) (hb : BytesOk l) :
    Calls Try.prog 10 #[.slice A n c] w fun e w' => ∃ v, e = .returned v ∧ w'.ownsRow w.heap.size 3 1 v 256 (nums .i64 (cnt l)) ∧ Below w.heap.size w w' := by subst hn; exact of_any A l c w hr hb
theorem right_at (A : Option Addr) (n : Nat) (l : List Int) (c : Nat) (w : World) (hn : l.length = n) (hr : ReadsInt w .i64 A n l) :
    Calls Try.prog 12 #[.slice A n c] w fun e w' => e = .returned (.bool (rightB l)) ∧ w = w' := by subst hn; exact right_any A l c w hr
theorem many_at (A : Option Addr) (n : Nat) (l : List Int) (c : Nat) (w : World) (hn : l.length = n) (hr : ReadsInt w .i64 A n l) :
    Calls Try.prog 14 #[.slice A n c] w fun e w' => e = .returned (.int .i64 (manyZ l)) ∧ w = w' := by subst hn; exact many_any A l c w hr
theorem total_at (A : Option Addr) (n : Nat) (l : List Int) (c : Nat) (w : World) (hn : l.length = n) (hr : ReadsInt w .i64 A n l) :
    Calls Try.prog 16 #[.slice A n c] w fun e w' => e = .returned (.int .i64 (totZ l)) ∧ w = w' := by subst hn; exact total_any A l c w hr
theorem ints_at (A B : Option Addr) (n p : Nat) (l m : List Int) (c d : Nat) (w : World) (hn : l.length = n) (hp : m.length = p) (hr : ReadsInt w .i64 A n l) (hq : ReadsInt w .i64 B p m) :
    Calls Try.prog 9 #[.slice A n c, .slice B p d] w fun e w' => e = .returned (.bool (eqL l m)) ∧ Below w.heap.size w w' := by subst hn hp; exact ints_any A B l m c d w hr hq
theorem rof_at (A : Option Addr) (n : Nat) (l : List Int) (c : Nat) (w : World) (hn : l.length = n) (hr : ReadsInt w .u8 A n l) (hb : BytesOk l) :
    Calls Try.prog 11 #[.slice A n c] w fun e w' => ∃ v, e = .returned v ∧ w'.ownsRow w.heap.size 3 1 v 256 (nums .i64 (cnt l)) ∧ Below w.heap.size w w' := by subst hn; exact rof_any A l c w hr hb
theorem rright_at (A : Option Addr) (n : Nat) (l : List Int) (c : Nat) (w : World) (hn : l.length = n) (hr : ReadsInt w .i64 A n l) (hbd : ∀ x, x ∈ l → -9223372036854775808 ≤ x ∧ x ≤ 9223372036854775807) :
    Calls Try.prog 13 #[.slice A n c] w fun e w' => e = .returned (.bool (rightB l)) ∧ Below w.heap.size w w' := by subst hn; exact rright_any A l c w hr hbd
theorem rmany_at (A : Option Addr) (n : Nat) (l : List Int) (c : Nat) (w : World) (hn : l.length = n) (hr : ReadsInt w .i64 A n l) (hbd : ∀ x, x ∈ l → -9223372036854775808 ≤ x ∧ x ≤ 9223372036854775807) :
    Calls Try.prog 15 #[.slice A n c] w fun e w' => e = .returned (.int .i64 (manyZ l)) ∧ Below w.heap.size w w' := by subst hn; exact rmany_any A l c w hr hbd
theorem rtotal_at (A : Option Addr) (n : Nat) (l : List Int) (c : Nat) (w : World) (hn : l.length = n) (hr : ReadsInt w .i64 A n l) (hbd : ∀ x, x ∈ l → -9223372036854775808 ≤ x ∧ x ≤ 9223372036854775807) :
    Calls Try.prog 17 #[.slice A n c] w fun e w' => e = .returned (.int .i64 (totZ l)) ∧ Below w.heap.size w w' := by subst hn; exact rtotal_any A l c w hr hbd
theorem add_at (A B : Option Addr) (n p : Nat) (l m : List Int) (c d : Nat) (w : World) (hn : l.length = n) (hp : m.length = p) (hr : ReadsInt w .i64 A n l) (hq : ReadsInt w .i64 B p m) (h1 : rightB l = true) (h2 : rightB m = true) :
    Calls Try.prog 18 #[.slice A n c, .slice B p d] w (AddPost l m w) := by subst hn hp; exact add_made A B l m c d w hr hq h1 h2
end Go.Proofs.Yticnigpbipfiiaa
