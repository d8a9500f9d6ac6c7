/- The contract of hist.Of: it returns the counts of the bytes; no block that was there turns. -/
import Derived.Test.YthkpjjkjdklpmaaHs
import Derived.Test.YthkpjjkjdklpmaaBase
import Derived.Test.YthkpjjkjdklpmaaProg
import Derived.KernelRfl
import Derived.BigQuiet
import Derived.Deep.QuietTactic
namespace Go.Proofs.Ythkpjjkjdklpmaa
open Go.RowKit Go.Proofs.YthkpjjkjdklpmaaW.PrintWords Go.Proofs.YthkpjjkjdklpmaaW.PrintLast Go.Proofs.YthkpjjkjdklpmaaW.PrintMore
attribute [local go_sem] max2_int min2_int max_two min_two max_three min_three max_four min_four
set_option linter.unusedSimpArgs false
set_option linter.unusedVariables false
/-- an array of whole numbers in memory -/
def arrI (cs : List Int) : Array Value := (nums .i64 cs).toArray
theorem arrI_set (cs : List Int) (i : Nat) (x : Int) : (arrI cs).setIfInBounds i (.int .i64 x) = arrI (cs.set i x) := by
  unfold arrI nums; simp [List.map_set]
theorem arrI_get (cs : List Int) (i : Nat) (h : i < cs.length) : (arrI cs)[i]? = some (.int .i64 (cs.getD i 0)) := by
  unfold arrI nums; simp [List.getElem?_eq_getElem h]
theorem arrI_toList (cs : List Int) : (arrI cs).toList = nums .i64 cs := by simp [arrI]
theorem arr_reads {w : World} {g n : Nat} {t : TypeId} {cs : List Int} (h : w.heap[g]? = some (.cells (arrI cs) t (0, 0))) (hn : cs.length = n) (hm : n ≤ 9223372036854775807) : ReadsInt w .i64 (some ⟨g, 0, none⟩) n cs := by
  refine ⟨hn, hm, fun _ => ⟨_, rfl, fun j hj => ?_⟩⟩
  rw [add_plain, blk_cell h, arrI_get _ _ (by omega)]
theorem info_int : (Try.prog.info? 3).map (fun i => (i.zero, i.size, i.bytes)) = some (some (.int .i64 0), 1, 8) := by kernel_rfl
theorem info_u8 : (Try.prog.info? 5).map (fun i => (i.zero, i.size, i.bytes)) = some (some (.int .u8 0), 1, 1) := by kernel_rfl
theorem made_arr (m : Nat) : madeCells #[Value.int .i64 0] m = arrI (zeros m) := by
  apply Array.ext'
  rw [arrI_toList]
  apply List.ext_getElem
  · simp [nums, madeCells, zeros]
  · intro i h1 h2
    simp [nums, madeCells, zeros, Nat.mod_one]
theorem make_ints (m : Nat) (hm : m * 8 ≤ 281474976710656) (W : World) : Sem.run Try.prog (Instr.makeSlice 26 (.int .i64 (m : Int)) (.int .i64 (m : Int))) W = .ok (.slice (some ⟨W.heap.size, 0, none⟩) m m) (W.alloc (.cells (arrI (zeros m)) 3)) := by
  have := print_make (P := Try.prog) 26 3 .i64 8 Try.underlying26 info_int (by omega) m hm W
  rwa [made_arr] at this
theorem make_256 (W : World) : Sem.run Try.prog (Instr.makeSlice 26 (.int .i64 256) (.int .i64 256)) W = .ok (.slice (some ⟨W.heap.size, 0, none⟩) 256 256) (W.alloc (.cells (arrI (zeros 256)) 3)) := make_ints 256 (by omega) W
theorem zero_arr256 (W : World) : Sem.run Try.prog (zeroValue 42) W = .ok (.agg (arrI (zeros 256))) W := by kernel_rfl
set_option maxHeartbeats 1000000 in
set_option maxRecDepth 20000 in
theorem of_any (A : Option Addr) (l : List Int) (c : Nat) (w : World) (hr : ReadsInt w .u8 A l.length l) (hb : BytesOk l) :
    Calls Try.prog 19 #[.slice A l.length c] w fun e w' => ∃ v, e = .returned v ∧ w'.ownsRow w.heap.size 3 1 v 256 (nums .i64 (cnt l)) ∧ Below w.heap.size w w' := by
  have hz := zero_arr256
  have HR := Lib.hid hr
  have hl : l.length ≤ 9223372036854775807 := hr.2.1
  clear hr
  go_enter Try.func19, Try.ntmps19
  go_wp2
  clear hz
  go_loopg [8] l.length (fun k q wr => ∃ i : Nat, i ≤ l.length ∧ k = l.length - i ∧ q = .int .i64 i ∧ wr.heap[w.heap.size]? = some (.cells (arrI (cnt (l.take i))) 42 (0, 0)) ∧ Below w.heap.size w wr)
  case atStart => exact ⟨0, by omega, by omega, rfl, by rw [List.take_zero, cnt_nil]; exact heap_alloc_new w _, (Below.refl _ _).alloc (Nat.le_refl _) _⟩
  case round =>
    obtain ⟨i, hi, hk, rfl, hblk, hbel⟩ := hrel
    by_cases hlt : i < l.length
    · obtain ⟨x0, x1⟩ := hb.at i hlt
      obtain ⟨ad, hA, hc⟩ := reads_cell HR.out i hlt
      subst hA
      have hc' := pw_cell_below hbel hc
      have hlen := cnt_len (l.take i)
      have hg := blk_cell hblk (l.getD i 0).toNat
      rw [arrI_get _ _ (by omega)] at hg
      have hf := blk_frozen hblk (l.getD i 0).toNat
      have HS := Lib.hid (cnt_snoc (l.take i) (l.getD i 0) x0 x1)
      rw [← take_snoc' l i hlt] at HS
      have hbd : 0 ≤ (cnt (l.take i)).getD (l.getD i 0).toNat 0 ∧ (cnt (l.take i)).getD (l.getD i 0).toNat 0 ≤ i := by
        rw [cnt_get _ _ (by omega)]
        have := List.count_le_length (a := (((l.getD i 0).toNat : Nat) : Int)) (l := l.take i)
        rw [List.length_take] at this; omega
      have HB := Lib.hid hbel
      have HBLK := Lib.hid hblk
      have HK := Lib.hid hk
      clear hc hlen hbel hblk hk hb
      obtain ⟨X, hX⟩ : ∃ X : Nat, l.getD i 0 = X := ⟨(l.getD i 0).toNat, by omega⟩
      rw [hX] at hc' hg hf x0 x1 HS hbd
      rw [Int.toNat_natCast] at hg hf HS hbd
      clear hX
      obtain ⟨Y, hY⟩ : ∃ Y : Int, (cnt (l.take i)).getD X 0 = Y := ⟨_, rfl⟩
      rw [hY] at hg hbd HS
      clear hY
      go_wp2
      go_roundg (l.length - (i + 1))
      case measure => have := HK.out; omega
      case rel => exact ⟨i + 1, by omega, rfl, by go_num, by rw [HS.out, ← arrI_set]; exact blk_set HBLK.out _ _, HB.out.setCell (Nat.le_refl _) _⟩
    · have hii : i = l.length := by omega
      subst hii
      rw [take_all] at hblk
      have HB := Lib.hid hbel
      have HBLK := Lib.hid hblk
      clear hbel hblk hk hb
      have hlen := Lib.hid (cnt_len l)
      go_wp2_with (at_builtin; refine print_append_row (w0 := w) w.heap.size rfl _ _ 26 3 .i64 8 rfl Try.underlying26 info_int (by omega) _ [] (cnt l) _ _ _ rfl rfl (own_lit wr w.heap.size 3 .i64 [] HB.out.size (by simp)) (arr_reads (blk_alloc HBLK.out _) hlen.out (by omega)) (HB.out.alloc HB.out.size _) (by have := HB.out.size; simp; omega) (by simp) ?_; intro v1 w1 ho hb1 _ _)
      go_ret
      rw [List.nil_append, hlen.out] at ho
      exact ⟨_, rfl, ho, hb1⟩
end Go.Proofs.Ythkpjjkjdklpmaa
