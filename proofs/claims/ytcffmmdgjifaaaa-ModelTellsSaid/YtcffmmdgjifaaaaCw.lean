/- Plain: which bytes stand in a context, and which contexts there are. The contract of hist.Of: it returns the counts of the bytes; no block that was there turns. Contracts of the layer ctx that the print doesn't tell: which bytes are picked, which contexts are there. -/
import Derived.Test.YtcffmmdgjifaaaaPh
import Derived.Test.YtcffmmdgjifaaaaBase
import Derived.Test.YtcffmmdgjifaaaaProg
import Derived.KernelRfl
import Derived.BigQuiet
import Derived.Deep.QuietTactic
import Derived.Test.YtcffmmdgjifaaaaPPrx2
import Derived.Deep.RegionWith
import Derived.Deep.DeepMust
namespace Go.Proofs.Ytcffmmdgjifaaaa
set_option linter.unusedSimpArgs false
/-- a byte's context -/
def ctxAt (l : List Int) (i : Nat) : Int := if i = 0 then 0 else l.getD (i - 1) 0
/-- of the first i bytes, those whose context is c -/
def pickTo (l : List Int) (c : Int) : Nat → List Int
  | 0 => []
  | i + 1 => pickTo l c i ++ (if ctxAt l i = c then [l.getD i 0] else [])
theorem pickTo_len (l : List Int) (c : Int) : ∀ i, (pickTo l c i).length ≤ i
  | 0 => by simp [pickTo]
  | i + 1 => by
    have := pickTo_len l c i
    rw [pickTo, List.length_append]
    split <;> simp <;> omega
theorem pickTo_hit (l : List Int) (c : Int) (i : Nat) (h : ctxAt l i = c) : pickTo l c (i + 1) = pickTo l c i ++ [l.getD i 0] := by rw [pickTo, if_pos h]
theorem pickTo_miss (l : List Int) (c : Int) (i : Nat) (h : ¬ ctxAt l i = c) : pickTo l c (i + 1) = pickTo l c i := by rw [pickTo, if_neg h, List.append_nil]
theorem pickTo_ok {l : List Int} (h : BytesOk l) (c : Int) : ∀ i, i ≤ l.length → BytesOk (pickTo l c i)
  | 0, _ => by intro x hx; simp [pickTo] at hx
  | i + 1, hi => by
    rw [pickTo]
    refine BytesOk.append (pickTo_ok h c i (by omega)) ?_
    split
    · intro x hx
      rw [List.mem_singleton.1 hx]
      exact h.at i (by omega)
    · intro x hx; simp at hx
theorem ctxAt_ok {l : List Int} (h : BytesOk l) (i : Nat) (hi : i < l.length) : 0 ≤ ctxAt l i ∧ ctxAt l i ≤ 255 := by
  unfold ctxAt
  split
  · omega
  · exact h.at (i - 1) (by omega)
/-- of the first i bytes: which contexts there are -/
def metTo (l : List Int) : Nat → List Bool
  | 0 => List.replicate 256 false
  | i + 1 => (metTo l i).set (ctxAt l i).toNat true
theorem metTo_len (l : List Int) : ∀ i, (metTo l i).length = 256
  | 0 => List.length_replicate
  | i + 1 => by rw [metTo, List.length_set, metTo_len l i]
theorem metTo_get {l : List Int} (h : BytesOk l) : ∀ i, i ≤ l.length → ∀ c, c < 256 → (metTo l i).getD c false = (List.range i).any fun j => decide (ctxAt l j = (c : Int))
  | 0, _, c, hc => by
    rw [metTo, List.getD_eq_getElem?_getD, List.getElem?_replicate, List.range_zero, List.any_nil]
    split <;> rfl
  | i + 1, hi, c, hc => by
    have hb := ctxAt_ok h i (by omega)
    rw [metTo, List.range_succ, List.any_append, ← metTo_get h i (by omega) c hc]
    simp only [List.getD_eq_getElem?_getD, List.getElem?_set, metTo_len]
    by_cases e : (ctxAt l i).toNat = c
    · have e2 : ctxAt l i = (c : Int) := by omega
      rw [if_pos e, if_pos (by omega)]; simp [e2]
    · have e2 : ¬ ctxAt l i = (c : Int) := by omega
      rw [if_neg e]; simp [e2]
/-- the contexts below k -/
def presTo (m : List Bool) : Nat → List Int
  | 0 => []
  | k + 1 => presTo m k ++ (if m.getD k false = true then [(k : Int)] else [])
theorem presTo_len (m : List Bool) : ∀ k, (presTo m k).length ≤ k
  | 0 => by simp [presTo]
  | k + 1 => by
    have := presTo_len m k
    rw [presTo, List.length_append]
    split <;> simp <;> omega
theorem presTo_hit (m : List Bool) (k : Nat) (h : m.getD k false = true) : presTo m (k + 1) = presTo m k ++ [(k : Int)] := by rw [presTo, if_pos h]
theorem presTo_miss (m : List Bool) (k : Nat) (h : m.getD k false = false) : presTo m (k + 1) = presTo m k := by rw [presTo, h]; simp
/-- what the walks ask of bytes -/
def okBytes (l : List Int) : Bool := decide (l.length ≤ 1099511627776) && l.all fun x => decide (0 ≤ x) && decide (x ≤ 255)
theorem okBytes_iff (l : List Int) : okBytes l = true ↔ l.length ≤ 1099511627776 ∧ BytesOk l := by
  unfold okBytes BytesOk
  rw [Bool.and_eq_true, decide_eq_true_iff, List.all_eq_true]
  simp
end Go.Proofs.Ytcffmmdgjifaaaa
namespace Go.Proofs.Ytcffmmdgjifaaaa
open Go.RowKit Go.Proofs.YtcffmmdgjifaaaaW.PrintWords Go.Proofs.YtcffmmdgjifaaaaW.PrintLast Go.Proofs.YtcffmmdgjifaaaaW.PrintMore
attribute [local go_sem] max2_int min2_int max_two min_two max_three min_three max_four min_four
set_option linter.unusedSimpArgs false
set_option linter.unusedVariables false
/-- an array of whole numbers in memory -/
def arrI (cs : List Int) : Array Value := (nums .i64 cs).toArray
theorem arrI_set (cs : List Int) (i : Nat) (x : Int) : (arrI cs).setIfInBounds i (.int .i64 x) = arrI (cs.set i x) := by
  unfold arrI nums; simp [List.map_set]
theorem arrI_get (cs : List Int) (i : Nat) (h : i < cs.length) : (arrI cs)[i]? = some (.int .i64 (cs.getD i 0)) := by
  unfold arrI nums; simp [List.getElem?_eq_getElem h]
theorem arrI_toList (cs : List Int) : (arrI cs).toList = nums .i64 cs := by simp [arrI]
theorem arr_reads {w : World} {g n : Nat} {t : TypeId} {cs : List Int} (h : w.heap[g]? = some (.cells (arrI cs) t (0, 0))) (hn : cs.length = n) (hm : n ≤ 9223372036854775807) : ReadsInt w .i64 (some ⟨g, 0, none⟩) n cs := by
  refine ⟨hn, hm, fun _ => ⟨_, rfl, fun j hj => ?_⟩⟩
  rw [add_plain, blk_cell h, arrI_get _ _ (by omega)]
theorem info_int : (Try.prog.info? 3).map (fun i => (i.zero, i.size, i.bytes)) = some (some (.int .i64 0), 1, 8) := by kernel_rfl
theorem info_u8 : (Try.prog.info? 5).map (fun i => (i.zero, i.size, i.bytes)) = some (some (.int .u8 0), 1, 1) := by kernel_rfl
theorem made_arr (m : Nat) : madeCells #[Value.int .i64 0] m = arrI (zeros m) := by
  apply Array.ext'
  rw [arrI_toList]
  apply List.ext_getElem
  · simp [nums, madeCells, zeros]
  · intro i h1 h2
    simp [nums, madeCells, zeros, Nat.mod_one]
theorem make_ints (m : Nat) (hm : m * 8 ≤ 281474976710656) (W : World) : Sem.run Try.prog (Instr.makeSlice 29 (.int .i64 (m : Int)) (.int .i64 (m : Int))) W = .ok (.slice (some ⟨W.heap.size, 0, none⟩) m m) (W.alloc (.cells (arrI (zeros m)) 3)) := by
  have := print_make (P := Try.prog) 29 3 .i64 8 Try.underlying29 info_int (by omega) m hm W
  rwa [made_arr] at this
theorem make_256 (W : World) : Sem.run Try.prog (Instr.makeSlice 29 (.int .i64 256) (.int .i64 256)) W = .ok (.slice (some ⟨W.heap.size, 0, none⟩) 256 256) (W.alloc (.cells (arrI (zeros 256)) 3)) := make_ints 256 (by omega) W
theorem zero_arr256 (W : World) : Sem.run Try.prog (zeroValue 58) W = .ok (.agg (arrI (zeros 256))) W := by kernel_rfl
set_option maxHeartbeats 1000000 in
set_option maxRecDepth 20000 in
theorem of_any (A : Option Addr) (l : List Int) (c : Nat) (w : World) (hr : ReadsInt w .u8 A l.length l) (hb : BytesOk l) :
    Calls Try.prog 23 #[.slice A l.length c] w fun e w' => ∃ v, e = .returned v ∧ w'.ownsRow w.heap.size 3 1 v 256 (nums .i64 (cnt l)) ∧ Below w.heap.size w w' := by
  have hz := zero_arr256
  have HR := Lib.hid hr
  have hl : l.length ≤ 9223372036854775807 := hr.2.1
  clear hr
  go_enter Try.func23, Try.ntmps23
  go_wp2
  clear hz
  go_loopg [8] l.length (fun k q wr => ∃ i : Nat, i ≤ l.length ∧ k = l.length - i ∧ q = .int .i64 i ∧ wr.heap[w.heap.size]? = some (.cells (arrI (cnt (l.take i))) 58 (0, 0)) ∧ Below w.heap.size w wr)
  case atStart => exact ⟨0, by omega, by omega, rfl, by rw [List.take_zero, cnt_nil]; exact heap_alloc_new w _, (Below.refl _ _).alloc (Nat.le_refl _) _⟩
  case round =>
    obtain ⟨i, hi, hk, rfl, hblk, hbel⟩ := hrel
    by_cases hlt : i < l.length
    · obtain ⟨x0, x1⟩ := hb.at i hlt
      obtain ⟨ad, hA, hc⟩ := reads_cell HR.out i hlt
      subst hA
      have hc' := pw_cell_below hbel hc
      have hlen := cnt_len (l.take i)
      have hg := blk_cell hblk (l.getD i 0).toNat
      rw [arrI_get _ _ (by omega)] at hg
      have hf := blk_frozen hblk (l.getD i 0).toNat
      have HS := Lib.hid (cnt_snoc (l.take i) (l.getD i 0) x0 x1)
      rw [← take_snoc' l i hlt] at HS
      have hbd : 0 ≤ (cnt (l.take i)).getD (l.getD i 0).toNat 0 ∧ (cnt (l.take i)).getD (l.getD i 0).toNat 0 ≤ i := by
        rw [cnt_get _ _ (by omega)]
        have := List.count_le_length (a := (((l.getD i 0).toNat : Nat) : Int)) (l := l.take i)
        rw [List.length_take] at this; omega
      have HB := Lib.hid hbel
      have HBLK := Lib.hid hblk
      have HK := Lib.hid hk
      clear hc hlen hbel hblk hk hb
      obtain ⟨X, hX⟩ : ∃ X : Nat, l.getD i 0 = X := ⟨(l.getD i 0).toNat, by omega⟩
      rw [hX] at hc' hg hf x0 x1 HS hbd
      rw [Int.toNat_natCast] at hg hf HS hbd
      clear hX
      obtain ⟨Y, hY⟩ : ∃ Y : Int, (cnt (l.take i)).getD X 0 = Y := ⟨_, rfl⟩
      rw [hY] at hg hbd HS
      clear hY
      go_wp2
      go_roundg (l.length - (i + 1))
      case measure => have := HK.out; omega
      case rel => exact ⟨i + 1, by omega, rfl, by go_num, by rw [HS.out, ← arrI_set]; exact blk_set HBLK.out _ _, HB.out.setCell (Nat.le_refl _) _⟩
    · have hii : i = l.length := by omega
      subst hii
      rw [take_all] at hblk
      have HB := Lib.hid hbel
      have HBLK := Lib.hid hblk
      clear hbel hblk hk hb
      have hlen := Lib.hid (cnt_len l)
      go_wp2_with (at_builtin; refine print_append_row (w0 := w) w.heap.size rfl _ _ 29 3 .i64 8 rfl Try.underlying29 info_int (by omega) _ [] (cnt l) _ _ _ rfl rfl (own_lit wr w.heap.size 3 .i64 [] HB.out.size (by simp)) (arr_reads (blk_alloc HBLK.out _) hlen.out (by omega)) (HB.out.alloc HB.out.size _) (by have := HB.out.size; simp; omega) (by simp) ?_; intro v1 w1 ho hb1 _ _)
      go_ret
      rw [List.nil_append, hlen.out] at ho
      exact ⟨_, rfl, ho, hb1⟩
end Go.Proofs.Ytcffmmdgjifaaaa
namespace Go.Proofs.Ytcffmmdgjifaaaa
open Go.RowKit Go.Proofs.YtcffmmdgjifaaaaW.PrintWords Go.Proofs.YtcffmmdgjifaaaaW.PrintLast Go.Proofs.YtcffmmdgjifaaaaW.PrintMore
attribute [local go_sem] max2_int min2_int max_two min_two max_three min_three max_four min_four
set_option linter.unusedSimpArgs false
set_option linter.unusedVariables false
open PPr (ctx_At.f ctx_At.calls)
theorem at_f {l : List Int} (hok : BytesOk l) (i : Nat) (hi : i < l.length) (hm : l.length ≤ 1099511627776) : PPr.ctx_At.f 9 l i = some (ctxAt l i) := by
  have hb : ¬ ((i : Int) < 0) := by omega
  have hb2 : ¬ ((i : Int) ≥ (l.length : Int)) := by omega
  unfold ctx_At.f
  rw [if_neg hb]
  simp only [decide_eq_false hb2, PPr.ctx_At.j0]
  rw [if_neg (by simp)]
  unfold ctxAt
  by_cases h0 : i = 0
  · rw [if_pos (by omega), if_pos h0]
  · have hw : wrap64 ((i : Int) - 1) = (i : Int) - 1 := w64 rfl (by omega) (by omega)
    rw [if_neg (by omega), if_neg h0, hw, if_pos (by omega), if_pos (by omega)]
    have hr : rd l ((i : Int) - 1) = l.getD (i - 1) 0 := by unfold rd; rw [show ((i : Int) - 1).toNat = i - 1 by omega]
    have := hok.at (i - 1) (by omega)
    rw [hr, w64 rfl (by omega) (by omega)]
theorem at_any (A : Option Addr) (l : List Int) (c i : Nat) (w : World) (hok : BytesOk l) (hm : l.length ≤ 1099511627776) (hr : ReadsInt w .u8 A l.length l) (hc : l.length ≤ c) (hi : i < l.length) :
    Calls Try.prog 29 #[.slice A l.length c, .int .i64 (i : Int)] w fun e w' => e = .returned (.int .i64 (ctxAt l i)) ∧ ∃ nq, w' = w.drewN nq := by
  refine (PPr.ctx_At.calls 9 A c l i (ctxAt l i) w (Kd.C_of_reads (d := (0 : Int)) hr) hc (at_f hok i hi hm)).mono ?_
  rintro e w' ⟨rfl, ⟨hd⟩⟩
  exact ⟨rfl, hd⟩
/-- the two captured variables -/
structure Cap (w : World) (gb gc : Nat) (A : Option Addr) (n cap : Nat) (c : Int) : Prop where
  B : w.heap[gb]? = some (.cells #[.slice A n cap] 25 (0, 0))
  C : w.heap[gc]? = some (.cells #[.int .i64 c] 3 (0, 0))
theorem Cap.below {w w1 : World} {gb gc : Nat} {A : Option Addr} {n cap : Nat} {c : Int} (h : Cap w gb gc A n cap c) (hb : Below w.heap.size w w1) : Cap w1 gb gc A n cap c :=
  ⟨(hb.block _ (blk_lt h.B)).trans h.B, (hb.block _ (blk_lt h.C)).trans h.C⟩
set_option maxHeartbeats 400000 in
theorem for1_any (gb gc : Nat) (A : Option Addr) (l : List Int) (cap : Nat) (c : Int) (i : Nat) (w : World) (hok : BytesOk l) (hm : l.length ≤ 1099511627776) (h : Cap w gb gc A l.length cap c) (hr : ReadsInt w .u8 A l.length l) (hc : l.length ≤ cap) (hi : i < l.length) :
    Calls Try.prog 45 #[.int .i64 (i : Int), .pointer (some ⟨gb, 0, none⟩), .pointer (some ⟨gc, 0, none⟩)] w fun e w' => e = .returned (.bool (ctxAt l i == c)) ∧ ∃ nq, w' = w.drewN nq := by
  have h0 := blk_cell h.B 0
  have h1 := blk_cell h.C 0
  simp at h0 h1
  have HR := Lib.hid hr
  have HK := Lib.hid hok
  clear h hr hok
  go_enter Try.func45, Try.ntmps45
  go_wp2
  go_quiet ((go_at_call 29; exact Calls.quiet_of (at_any A l cap i _ HK.out hm (HR.out.below (pw_below_drewN (Below.refl _ _) _)) hc hi)))
  go_wp2
  go_ret
  exact ⟨rfl, _, rfl⟩
theorem info_u8' : (Try.prog.info? 5).map (fun i => (i.zero, i.size, i.bytes)) = some (some (.int .u8 0), 1, 1) := by kernel_rfl
set_option maxHeartbeats 1000000 in
theorem picked_any (gb gc : Nat) (A : Option Addr) (l : List Int) (cap : Nat) (c : Int) (w : World) (hok : BytesOk l) (h : Cap w gb gc A l.length cap c) (hr : ReadsInt w .u8 A l.length l) (hc : l.length ≤ cap) (hm : l.length ≤ 1099511627776) :
    Calls Try.prog 44 #[.slice A l.length cap, .func (.func 45) #[] #[.pointer (some ⟨gb, 0, none⟩), .pointer (some ⟨gc, 0, none⟩)]] w fun e w' =>
      ∃ v, e = .returned v ∧ w'.ownsRow w.heap.size 5 1 v (pickTo l c l.length).length (nums .u8 (pickTo l c l.length)) ∧ Below w.heap.size w w' := by
  have HR := Lib.hid hr
  have HC := Lib.hid h
  have HY := Lib.hid hok
  clear h hr hok
  go_enter Try.func44, Try.ntmps44
  go_wp2
  go_loopg [5, 10] l.length (fun k v q wr => ∃ i : Nat, i ≤ l.length ∧ k = l.length - i ∧ q = .int .i64 i ∧ wr.ownsRow w.heap.size 5 1 v (pickTo l c i).length (nums .u8 (pickTo l c i)) ∧ Below w.heap.size w wr)
  case atStart => exact ⟨0, by omega, by omega, rfl, own_nil _ _ _ _, Below.refl _ _⟩
  case round =>
    obtain ⟨i, hi, hk, rfl, ho, hb⟩ := hrel
    have HK := Lib.hid hk
    have HO := Lib.hid ho
    have HB := Lib.hid hb
    clear hk ho hb
    by_cases hlt : i < l.length
    · obtain ⟨ad, hA, hcell⟩ := reads_cell (HR.out.below HB.out) i hlt
      subst hA
      have HL := Lib.hid (pickTo_len l c i)
      by_cases he : ctxAt l i = c
      · have HE := Lib.hid (show (ctxAt l i == c) = true from beq_iff_eq.2 he)
        have HP := Lib.hid (pickTo_hit l c i he)
        clear he
        obtain ⟨X, hX⟩ : ∃ X, l.getD i 0 = X := ⟨_, rfl⟩
        rw [hX] at hcell HP
        clear hX
        go_wp2_with (first
          | (go_at_call 45; (with_reducible refine (for1_any gb gc (some ad) l cap c i _ HY.out hm (HC.out.below HB.out) (HR.out.below HB.out) hc hlt).mono ?_); rintro e w1 ⟨rfl, nq, rfl⟩; rw [HE.out])
          | (at_builtin; refine print_append_num (w0 := w) w.heap.size rfl (.tmp 18) (.tmp 20) 25 5 .u8 1 rfl Try.underlying25 info_u8' (by omega) _ (pickTo l c i) X rfl rfl (pw_own_below HO.out (pw_below_drewN (Below.refl _ _) _)) (pw_below_drewN HB.out _) HB.out.size (by have := HL.out; omega) ?_; intro v1 w1 ho1 hb1 _ _))
        go_roundg (l.length - (i + 1))
        case measure => have := HK.out; omega
        case rel => exact ⟨i + 1, by omega, rfl, by go_num, by rw [HP.out]; exact ho1, hb1⟩
      · have HE := Lib.hid (show (ctxAt l i == c) = false from beq_eq_false_iff_ne.2 he)
        have HP := Lib.hid (pickTo_miss l c i he)
        clear he
        go_wp2_with (first
          | (go_at_call 45; (with_reducible refine (for1_any gb gc (some ad) l cap c i _ HY.out hm (HC.out.below HB.out) (HR.out.below HB.out) hc hlt).mono ?_); rintro e w1 ⟨rfl, nq, rfl⟩; rw [HE.out]))
        go_roundg (l.length - (i + 1))
        case measure => have := HK.out; omega
        case rel => exact ⟨i + 1, by omega, rfl, by go_num, by rw [HP.out]; exact pw_own_below HO.out (pw_below_drewN (Below.refl _ _) _), pw_below_drewN HB.out _⟩
    · obtain rfl : i = l.length := by omega
      go_wp2
      go_ret
      exact ⟨_, rfl, HO.out, HB.out⟩
set_option maxHeartbeats 1000000 in
theorem for_any (A : Option Addr) (l : List Int) (cap : Nat) (c : Int) (w : World) (hr : ReadsInt w .u8 A l.length l) (hc : l.length ≤ cap) (hm : l.length ≤ 1099511627776) (hok : BytesOk l) :
    Calls Try.prog 22 #[.slice A l.length cap, .int .i64 c] w fun e w' => ∃ v, e = .returned v ∧ w'.ownsRow w.heap.size 3 1 v 256 (nums .i64 (cnt (pickTo l c l.length))) ∧ Below w.heap.size w w' := by
  have HR := Lib.hid hr
  have HB := Lib.hid (((Below.refl w.heap.size w).alloc (Nat.le_refl _) (.cells #[.slice A l.length cap] 25)).alloc (by simp) (.cells #[.int .i64 c] 3))
  have HC := Lib.hid (⟨by simpa using blk_alloc (heap_alloc_new w (.cells #[.slice A l.length cap] 25)) _, by simpa using heap_alloc_new (w.alloc (.cells #[.slice A l.length cap] 25)) (.cells #[.int .i64 c] 3)⟩ : Cap ((w.alloc (.cells #[.slice A l.length cap] 25)).alloc (.cells #[.int .i64 c] 3)) w.heap.size (w.heap.size + 1) A l.length cap c)
  have HY := Lib.hid hok
  have HP := Lib.hid (pickTo_ok hok c l.length (Nat.le_refl _))
  clear hr hok
  go_enter Try.func22, Try.ntmps22
  go_wp2_with (first
    | (go_at_call 44; go_must ((with_reducible refine (picked_any _ _ A l cap c _ HY.out HC.out (HR.out.below HB.out) hc hm).mono ?_); rintro e w1 ⟨v, rfl, ho, hb⟩; obtain ⟨A1, c1, rfl, hle, hr1⟩ := own_reads' ho; have HR1 := Lib.hid hr1; have HB1 := Lib.hid (below_then' HB.out hb); clear ho hb hr1))
    | (go_at_call 23; go_must ((with_reducible refine (of_any A1 (pickTo l c l.length) c1 _ HR1.out HP.out).mono ?_); rintro e w2 ⟨v, rfl, ho, hb⟩; have HO := Lib.hid (own_weaken ho HB1.out.size); have HB2 := Lib.hid (below_then' HB1.out hb); clear ho hb)))
  go_ret
  exact ⟨_, rfl, HO.out, HB2.out⟩
def arrB (bs : List Bool) : Array Value := (bools bs).toArray
theorem arrB_set (bs : List Bool) (i : Nat) (x : Bool) : (arrB bs).setIfInBounds i (.bool x) = arrB (bs.set i x) := by
  unfold arrB bools; simp [List.map_set]
theorem arrB_get (bs : List Bool) (i : Nat) (h : i < bs.length) : (arrB bs)[i]? = some (.bool (bs.getD i false)) := by
  unfold arrB bools; simp [List.getElem?_eq_getElem h]
theorem arrB_size (bs : List Bool) : (arrB bs).size = bs.length := by unfold arrB bools; simp
theorem zero_arrB (W : World) : Sem.run Try.prog (zeroValue 74) W = .ok (.agg (arrB (List.replicate 256 false))) W := by kernel_rfl
theorem info_int' : (Try.prog.info? 3).map (fun i => (i.zero, i.size, i.bytes)) = some (some (.int .i64 0), 1, 8) := by kernel_rfl
theorem idx_arrB (bs : List Bool) (k : Nat) (hk : k < 256) (hl : bs.length = 256) (W : World) :
    Sem.run Try.prog (Instr.index 74 (.agg (arrB bs)) (.int .i64 (k : Int))) W = .ok (.bool (bs.getD k false)) W := by
  have h1 : (0 : Int) ≤ k ∧ (k : Int) < 256 := by omega
  have hg := arrB_get bs k (by omega)
  simp [Instr.index, run_underlying Try.underlying74, asIntOf, go_sem, h1, part]
  rw [if_pos hk, hg]
  simp
set_option maxHeartbeats 1000000 in
set_option maxRecDepth 20000 in
theorem present_any (A : Option Addr) (l : List Int) (cap : Nat) (w : World) (hr : ReadsInt w .u8 A l.length l) (hc : l.length ≤ cap) (hm : l.length ≤ 1099511627776) (hok : BytesOk l) :
    Calls Try.prog 55 #[.slice A l.length cap] w fun e w' => ∃ v, e = .returned v ∧ w'.ownsRow w.heap.size 3 1 v (presTo (metTo l l.length) 256).length (nums .i64 (presTo (metTo l l.length) 256)) ∧ Below w.heap.size w w' := by
  have hz := zero_arrB
  have HR := Lib.hid hr
  have HY := Lib.hid hok
  clear hr hok
  go_enter Try.func55, Try.ntmps55
  go_wp2
  clear hz
  go_loopg [10] l.length (fun k q wr => ∃ i : Nat, i ≤ l.length ∧ k = l.length - i ∧ q = .int .i64 i ∧ wr.heap[w.heap.size]? = some (.cells (arrB (metTo l i)) 74 (0, 0)) ∧ Below w.heap.size w wr)
  case atStart => exact ⟨0, by omega, by omega, rfl, by rw [metTo]; exact heap_alloc_new w _, (Below.refl _ _).alloc (Nat.le_refl _) _⟩
  case round =>
    obtain ⟨i, hi, hk, rfl, hblk, hb⟩ := hrel
    have HK := Lib.hid hk
    have HB := Lib.hid hb
    have HBLK := Lib.hid hblk
    clear hk hb hblk
    by_cases hlt : i < l.length
    · have hbd := ctxAt_ok HY.out i hlt
      obtain ⟨X, hX⟩ : ∃ X : Nat, ctxAt l i = X := ⟨(ctxAt l i).toNat, by omega⟩
      have hlen := metTo_len l i
      have HS := Lib.hid (show metTo l (i + 1) = (metTo l i).set X true by rw [metTo, hX, Int.toNat_natCast])
      rw [hX] at hbd
      have HX := Lib.hid hX
      have hg := blk_cell HBLK.out X
      rw [arrB_get _ _ (by omega)] at hg
      have hf := blk_frozen HBLK.out X
      clear hX hlen
      go_wp2_with (go_at_call 29; (with_reducible refine (at_any A l cap i _ HY.out hm (HR.out.below HB.out) hc hlt).mono ?_); rintro e w1 ⟨rfl, nq, rfl⟩; rw [HX.out])
      go_roundg (l.length - (i + 1))
      case measure => have := HK.out; omega
      case rel => exact ⟨i + 1, by omega, rfl, by go_num, by rw [HS.out, ← arrB_set]; exact blk_set (blk_drewN HBLK.out _) _ _, (pw_below_drewN HB.out _).setCell (Nat.le_refl _) _⟩
    · obtain rfl : i = l.length := by omega
      have hlen := metTo_len l l.length
      obtain ⟨bs, hbs⟩ : ∃ bs, metTo l l.length = bs := ⟨_, rfl⟩
      rw [hbs] at HBLK hlen
      have HBS := Lib.hid hbs
      clear hbs
      have HL := Lib.hid hlen
      have HSZ := Lib.hid (show (Try.prog.info? 74).map (·.size) = some (arrB bs).size by rw [arrB_size, hlen]; kernel_rfl)
      have hix := fun (k : Nat) (hk : k < 256) (W : World) => idx_arrB bs k hk hlen W
      have HIX := Lib.hid hix
      clear hlen hix
      go_wp2_with (refine wpList_load_row rfl 74 (.tmp 3) rfl w.heap.size rfl _ _ _ _ HBLK.out Try.underlying74 rfl HSZ.out ?_)
      go_loopg [5, 19] 256 (fun k v q w2 => ∃ i : Nat, i ≤ 256 ∧ k = 256 - i ∧ q = .int .i64 i ∧ w2.ownsRow w.heap.size 3 1 v (presTo bs i).length (nums .i64 (presTo bs i)) ∧ Below w.heap.size w w2)
      case atStart => exact ⟨0, by omega, by omega, rfl, own_nil _ _ _ _, HB.out⟩
      case round =>
        clear HBLK HB HK
        obtain ⟨i, hi, hk, rfl, ho, hb⟩ := hrel
        have HK := Lib.hid hk
        have HO := Lib.hid ho
        have HB := Lib.hid hb
        clear hk ho hb
        by_cases hlt2 : i < 256
        · have hix := HIX.out i hlt2
          have HLN := Lib.hid (presTo_len bs i)
          cases hb : bs.getD i false with
          | true =>
            have HP := Lib.hid (presTo_hit bs i hb)
            rw [hb] at hix
            clear hb
            go_wp2_with (at_builtin; refine print_append_num (w0 := w) w.heap.size rfl (.tmp 24) (.tmp 26) 29 3 .i64 8 rfl Try.underlying29 info_int' (by omega) _ (presTo bs i) (i : Int) rfl rfl HO.out HB.out HB.out.size (by have := HLN.out; omega) ?_; intro v1 w1 ho1 hb1 _ _)
            go_roundg (256 - (i + 1))
            case measure => have := HK.out; omega
            case rel => exact ⟨i + 1, by omega, rfl, by go_num, by rw [HP.out]; exact ho1, hb1⟩
          | false =>
            have HP := Lib.hid (presTo_miss bs i hb)
            rw [hb] at hix
            clear hb
            go_wp2
            go_roundg (256 - (i + 1))
            case measure => have := HK.out; omega
            case rel => exact ⟨i + 1, by omega, rfl, by go_num, by rw [HP.out]; exact HO.out, HB.out⟩
        · obtain rfl : i = 256 := by omega
          go_wp2
          go_ret
          exact ⟨_, rfl, by rw [HBS.out]; exact HO.out, HB.out⟩
end Go.Proofs.Ytcffmmdgjifaaaa
