/- Contracts of the layer ctx that the print doesn't tell: which bytes are picked, which contexts are there. -/
import Derived.Test.YthkpjjkjdklpmaaOf
import Derived.Test.YthkpjjkjdklpmaaCx
import Derived.Test.YthkpjjkjdklpmaaPPrx1
import Derived.Deep.RegionWith
import Derived.Deep.DeepMust
namespace Go.Proofs.Ythkpjjkjdklpmaa
open Go.RowKit Go.Proofs.YthkpjjkjdklpmaaW.PrintWords Go.Proofs.YthkpjjkjdklpmaaW.PrintLast Go.Proofs.YthkpjjkjdklpmaaW.PrintMore
attribute [local go_sem] max2_int min2_int max_two min_two max_three min_three max_four min_four
set_option linter.unusedSimpArgs false
set_option linter.unusedVariables false
open PPr (ctx_At.f ctx_At.calls)
theorem at_f {l : List Int} (hok : BytesOk l) (i : Nat) (hi : i < l.length) (hm : l.length ≤ 1099511627776) : PPr.ctx_At.f 9 l i = some (ctxAt l i) := by
  have hb : ¬ ((i : Int) < 0) := by omega
  have hb2 : ¬ ((i : Int) ≥ (l.length : Int)) := by omega
  unfold ctx_At.f
  rw [if_neg hb]
  simp only [decide_eq_false hb2, PPr.ctx_At.j0]
  rw [if_neg (by simp)]
  unfold ctxAt
  by_cases h0 : i = 0
  · rw [if_pos (by omega), if_pos h0]
  · have hw : wrap64 ((i : Int) - 1) = (i : Int) - 1 := w64 rfl (by omega) (by omega)
    rw [if_neg (by omega), if_neg h0, hw, if_pos (by omega), if_pos (by omega)]
    have hr : rd l ((i : Int) - 1) = l.getD (i - 1) 0 := by unfold rd; rw [show ((i : Int) - 1).toNat = i - 1 by omega]
    have := hok.at (i - 1) (by omega)
    rw [hr, w64 rfl (by omega) (by omega)]
theorem at_any (A : Option Addr) (l : List Int) (c i : Nat) (w : World) (hok : BytesOk l) (hm : l.length ≤ 1099511627776) (hr : ReadsInt w .u8 A l.length l) (hc : l.length ≤ c) (hi : i < l.length) :
    Calls Try.prog 9 #[.slice A l.length c, .int .i64 (i : Int)] w fun e w' => e = .returned (.int .i64 (ctxAt l i)) ∧ ∃ nq, w' = w.drewN nq := by
  refine (PPr.ctx_At.calls 9 A c l i (ctxAt l i) w (Kd.C_of_reads (d := (0 : Int)) hr) hc (at_f hok i hi hm)).mono ?_
  rintro e w' ⟨rfl, ⟨hd⟩⟩
  exact ⟨rfl, hd⟩
/-- the two captured variables -/
structure Cap (w : World) (gb gc : Nat) (A : Option Addr) (n cap : Nat) (c : Int) : Prop where
  B : w.heap[gb]? = some (.cells #[.slice A n cap] 22 (0, 0))
  C : w.heap[gc]? = some (.cells #[.int .i64 c] 3 (0, 0))
theorem Cap.below {w w1 : World} {gb gc : Nat} {A : Option Addr} {n cap : Nat} {c : Int} (h : Cap w gb gc A n cap c) (hb : Below w.heap.size w w1) : Cap w1 gb gc A n cap c :=
  ⟨(hb.block _ (blk_lt h.B)).trans h.B, (hb.block _ (blk_lt h.C)).trans h.C⟩
set_option maxHeartbeats 400000 in
theorem for1_any (gb gc : Nat) (A : Option Addr) (l : List Int) (cap : Nat) (c : Int) (i : Nat) (w : World) (hok : BytesOk l) (hm : l.length ≤ 1099511627776) (h : Cap w gb gc A l.length cap c) (hr : ReadsInt w .u8 A l.length l) (hc : l.length ≤ cap) (hi : i < l.length) :
    Calls Try.prog 23 #[.int .i64 (i : Int), .pointer (some ⟨gb, 0, none⟩), .pointer (some ⟨gc, 0, none⟩)] w fun e w' => e = .returned (.bool (ctxAt l i == c)) ∧ ∃ nq, w' = w.drewN nq := by
  have h0 := blk_cell h.B 0
  have h1 := blk_cell h.C 0
  simp at h0 h1
  have HR := Lib.hid hr
  have HK := Lib.hid hok
  clear h hr hok
  go_enter Try.func23, Try.ntmps23
  go_wp2
  go_quiet ((go_at_call 9; exact Calls.quiet_of (at_any A l cap i _ HK.out hm (HR.out.below (pw_below_drewN (Below.refl _ _) _)) hc hi)))
  go_wp2
  go_ret
  exact ⟨rfl, _, rfl⟩
theorem info_u8' : (Try.prog.info? 5).map (fun i => (i.zero, i.size, i.bytes)) = some (some (.int .u8 0), 1, 1) := by kernel_rfl
set_option maxHeartbeats 1000000 in
theorem picked_any (gb gc : Nat) (A : Option Addr) (l : List Int) (cap : Nat) (c : Int) (w : World) (hok : BytesOk l) (h : Cap w gb gc A l.length cap c) (hr : ReadsInt w .u8 A l.length l) (hc : l.length ≤ cap) (hm : l.length ≤ 1099511627776) :
    Calls Try.prog 22 #[.slice A l.length cap, .func (.func 23) #[] #[.pointer (some ⟨gb, 0, none⟩), .pointer (some ⟨gc, 0, none⟩)]] w fun e w' =>
      ∃ v, e = .returned v ∧ w'.ownsRow w.heap.size 5 1 v (pickTo l c l.length).length (nums .u8 (pickTo l c l.length)) ∧ Below w.heap.size w w' := by
  have HR := Lib.hid hr
  have HC := Lib.hid h
  have HY := Lib.hid hok
  clear h hr hok
  go_enter Try.func22, Try.ntmps22
  go_wp2
  go_loopg [5, 10] l.length (fun k v q wr => ∃ i : Nat, i ≤ l.length ∧ k = l.length - i ∧ q = .int .i64 i ∧ wr.ownsRow w.heap.size 5 1 v (pickTo l c i).length (nums .u8 (pickTo l c i)) ∧ Below w.heap.size w wr)
  case atStart => exact ⟨0, by omega, by omega, rfl, own_nil _ _ _ _, Below.refl _ _⟩
  case round =>
    obtain ⟨i, hi, hk, rfl, ho, hb⟩ := hrel
    have HK := Lib.hid hk
    have HO := Lib.hid ho
    have HB := Lib.hid hb
    clear hk ho hb
    by_cases hlt : i < l.length
    · obtain ⟨ad, hA, hcell⟩ := reads_cell (HR.out.below HB.out) i hlt
      subst hA
      have HL := Lib.hid (pickTo_len l c i)
      by_cases he : ctxAt l i = c
      · have HE := Lib.hid (show (ctxAt l i == c) = true from beq_iff_eq.2 he)
        have HP := Lib.hid (pickTo_hit l c i he)
        clear he
        obtain ⟨X, hX⟩ : ∃ X, l.getD i 0 = X := ⟨_, rfl⟩
        rw [hX] at hcell HP
        clear hX
        go_wp2_with (first
          | (go_at_call 23; (with_reducible refine (for1_any gb gc (some ad) l cap c i _ HY.out hm (HC.out.below HB.out) (HR.out.below HB.out) hc hlt).mono ?_); rintro e w1 ⟨rfl, nq, rfl⟩; rw [HE.out])
          | (at_builtin; refine print_append_num (w0 := w) w.heap.size rfl (.tmp 18) (.tmp 20) 22 5 .u8 1 rfl Try.underlying22 info_u8' (by omega) _ (pickTo l c i) X rfl rfl (pw_own_below HO.out (pw_below_drewN (Below.refl _ _) _)) (pw_below_drewN HB.out _) HB.out.size (by have := HL.out; omega) ?_; intro v1 w1 ho1 hb1 _ _))
        go_roundg (l.length - (i + 1))
        case measure => have := HK.out; omega
        case rel => exact ⟨i + 1, by omega, rfl, by go_num, by rw [HP.out]; exact ho1, hb1⟩
      · have HE := Lib.hid (show (ctxAt l i == c) = false from beq_eq_false_iff_ne.2 he)
        have HP := Lib.hid (pickTo_miss l c i he)
        clear he
        go_wp2_with (first
          | (go_at_call 23; (with_reducible refine (for1_any gb gc (some ad) l cap c i _ HY.out hm (HC.out.below HB.out) (HR.out.below HB.out) hc hlt).mono ?_); rintro e w1 ⟨rfl, nq, rfl⟩; rw [HE.out]))
        go_roundg (l.length - (i + 1))
        case measure => have := HK.out; omega
        case rel => exact ⟨i + 1, by omega, rfl, by go_num, by rw [HP.out]; exact pw_own_below HO.out (pw_below_drewN (Below.refl _ _) _), pw_below_drewN HB.out _⟩
    · obtain rfl : i = l.length := by omega
      go_wp2
      go_ret
      exact ⟨_, rfl, HO.out, HB.out⟩
set_option maxHeartbeats 1000000 in
theorem for_any (A : Option Addr) (l : List Int) (cap : Nat) (c : Int) (w : World) (hr : ReadsInt w .u8 A l.length l) (hc : l.length ≤ cap) (hm : l.length ≤ 1099511627776) (hok : BytesOk l) :
    Calls Try.prog 12 #[.slice A l.length cap, .int .i64 c] w fun e w' => ∃ v, e = .returned v ∧ w'.ownsRow w.heap.size 3 1 v 256 (nums .i64 (cnt (pickTo l c l.length))) ∧ Below w.heap.size w w' := by
  have HR := Lib.hid hr
  have HB := Lib.hid (((Below.refl w.heap.size w).alloc (Nat.le_refl _) (.cells #[.slice A l.length cap] 22)).alloc (by simp) (.cells #[.int .i64 c] 3))
  have HC := Lib.hid (⟨by simpa using blk_alloc (heap_alloc_new w (.cells #[.slice A l.length cap] 22)) _, by simpa using heap_alloc_new (w.alloc (.cells #[.slice A l.length cap] 22)) (.cells #[.int .i64 c] 3)⟩ : Cap ((w.alloc (.cells #[.slice A l.length cap] 22)).alloc (.cells #[.int .i64 c] 3)) w.heap.size (w.heap.size + 1) A l.length cap c)
  have HY := Lib.hid hok
  have HP := Lib.hid (pickTo_ok hok c l.length (Nat.le_refl _))
  clear hr hok
  go_enter Try.func12, Try.ntmps12
  go_wp2_with (first
    | (go_at_call 22; go_must ((with_reducible refine (picked_any _ _ A l cap c _ HY.out HC.out (HR.out.below HB.out) hc hm).mono ?_); rintro e w1 ⟨v, rfl, ho, hb⟩; obtain ⟨A1, c1, rfl, hle, hr1⟩ := own_reads' ho; have HR1 := Lib.hid hr1; have HB1 := Lib.hid (below_then' HB.out hb); clear ho hb hr1))
    | (go_at_call 19; go_must ((with_reducible refine (of_any A1 (pickTo l c l.length) c1 _ HR1.out HP.out).mono ?_); rintro e w2 ⟨v, rfl, ho, hb⟩; have HO := Lib.hid (own_weaken ho HB1.out.size); have HB2 := Lib.hid (below_then' HB1.out hb); clear ho hb)))
  go_ret
  exact ⟨_, rfl, HO.out, HB2.out⟩
def arrB (bs : List Bool) : Array Value := (bools bs).toArray
theorem arrB_set (bs : List Bool) (i : Nat) (x : Bool) : (arrB bs).setIfInBounds i (.bool x) = arrB (bs.set i x) := by
  unfold arrB bools; simp [List.map_set]
theorem arrB_get (bs : List Bool) (i : Nat) (h : i < bs.length) : (arrB bs)[i]? = some (.bool (bs.getD i false)) := by
  unfold arrB bools; simp [List.getElem?_eq_getElem h]
theorem arrB_size (bs : List Bool) : (arrB bs).size = bs.length := by unfold arrB bools; simp
theorem zero_arrB (W : World) : Sem.run Try.prog (zeroValue 40) W = .ok (.agg (arrB (List.replicate 256 false))) W := by kernel_rfl
theorem info_int' : (Try.prog.info? 3).map (fun i => (i.zero, i.size, i.bytes)) = some (some (.int .i64 0), 1, 8) := by kernel_rfl
theorem idx_arrB (bs : List Bool) (k : Nat) (hk : k < 256) (hl : bs.length = 256) (W : World) :
    Sem.run Try.prog (Instr.index 40 (.agg (arrB bs)) (.int .i64 (k : Int))) W = .ok (.bool (bs.getD k false)) W := by
  have h1 : (0 : Int) ≤ k ∧ (k : Int) < 256 := by omega
  have hg := arrB_get bs k (by omega)
  simp [Instr.index, run_underlying Try.underlying40, asIntOf, go_sem, h1, part]
  rw [if_pos hk, hg]
  simp
set_option maxHeartbeats 1000000 in
set_option maxRecDepth 20000 in
theorem present_any (A : Option Addr) (l : List Int) (cap : Nat) (w : World) (hr : ReadsInt w .u8 A l.length l) (hc : l.length ≤ cap) (hm : l.length ≤ 1099511627776) (hok : BytesOk l) :
    Calls Try.prog 14 #[.slice A l.length cap] w fun e w' => ∃ v, e = .returned v ∧ w'.ownsRow w.heap.size 3 1 v (presTo (metTo l l.length) 256).length (nums .i64 (presTo (metTo l l.length) 256)) ∧ Below w.heap.size w w' := by
  have hz := zero_arrB
  have HR := Lib.hid hr
  have HY := Lib.hid hok
  clear hr hok
  go_enter Try.func14, Try.ntmps14
  go_wp2
  clear hz
  go_loopg [10] l.length (fun k q wr => ∃ i : Nat, i ≤ l.length ∧ k = l.length - i ∧ q = .int .i64 i ∧ wr.heap[w.heap.size]? = some (.cells (arrB (metTo l i)) 40 (0, 0)) ∧ Below w.heap.size w wr)
  case atStart => exact ⟨0, by omega, by omega, rfl, by rw [metTo]; exact heap_alloc_new w _, (Below.refl _ _).alloc (Nat.le_refl _) _⟩
  case round =>
    obtain ⟨i, hi, hk, rfl, hblk, hb⟩ := hrel
    have HK := Lib.hid hk
    have HB := Lib.hid hb
    have HBLK := Lib.hid hblk
    clear hk hb hblk
    by_cases hlt : i < l.length
    · have hbd := ctxAt_ok HY.out i hlt
      obtain ⟨X, hX⟩ : ∃ X : Nat, ctxAt l i = X := ⟨(ctxAt l i).toNat, by omega⟩
      have hlen := metTo_len l i
      have HS := Lib.hid (show metTo l (i + 1) = (metTo l i).set X true by rw [metTo, hX, Int.toNat_natCast])
      rw [hX] at hbd
      have HX := Lib.hid hX
      have hg := blk_cell HBLK.out X
      rw [arrB_get _ _ (by omega)] at hg
      have hf := blk_frozen HBLK.out X
      clear hX hlen
      go_wp2_with (go_at_call 9; (with_reducible refine (at_any A l cap i _ HY.out hm (HR.out.below HB.out) hc hlt).mono ?_); rintro e w1 ⟨rfl, nq, rfl⟩; rw [HX.out])
      go_roundg (l.length - (i + 1))
      case measure => have := HK.out; omega
      case rel => exact ⟨i + 1, by omega, rfl, by go_num, by rw [HS.out, ← arrB_set]; exact blk_set (blk_drewN HBLK.out _) _ _, (pw_below_drewN HB.out _).setCell (Nat.le_refl _) _⟩
    · obtain rfl : i = l.length := by omega
      have hlen := metTo_len l l.length
      obtain ⟨bs, hbs⟩ : ∃ bs, metTo l l.length = bs := ⟨_, rfl⟩
      rw [hbs] at HBLK hlen
      have HBS := Lib.hid hbs
      clear hbs
      have HL := Lib.hid hlen
      have HSZ := Lib.hid (show (Try.prog.info? 40).map (·.size) = some (arrB bs).size by rw [arrB_size, hlen]; kernel_rfl)
      have hix := fun (k : Nat) (hk : k < 256) (W : World) => idx_arrB bs k hk hlen W
      have HIX := Lib.hid hix
      clear hlen hix
      go_wp2_with (refine wpList_load_row rfl 40 (.tmp 3) rfl w.heap.size rfl _ _ _ _ HBLK.out Try.underlying40 rfl HSZ.out ?_)
      go_loopg [5, 19] 256 (fun k v q w2 => ∃ i : Nat, i ≤ 256 ∧ k = 256 - i ∧ q = .int .i64 i ∧ w2.ownsRow w.heap.size 3 1 v (presTo bs i).length (nums .i64 (presTo bs i)) ∧ Below w.heap.size w w2)
      case atStart => exact ⟨0, by omega, by omega, rfl, own_nil _ _ _ _, HB.out⟩
      case round =>
        clear HBLK HB HK
        obtain ⟨i, hi, hk, rfl, ho, hb⟩ := hrel
        have HK := Lib.hid hk
        have HO := Lib.hid ho
        have HB := Lib.hid hb
        clear hk ho hb
        by_cases hlt2 : i < 256
        · have hix := HIX.out i hlt2
          have HLN := Lib.hid (presTo_len bs i)
          cases hb : bs.getD i false with
          | true =>
            have HP := Lib.hid (presTo_hit bs i hb)
            rw [hb] at hix
            clear hb
            go_wp2_with (at_builtin; refine print_append_num (w0 := w) w.heap.size rfl (.tmp 24) (.tmp 26) 26 3 .i64 8 rfl Try.underlying26 info_int' (by omega) _ (presTo bs i) (i : Int) rfl rfl HO.out HB.out HB.out.size (by have := HLN.out; omega) ?_; intro v1 w1 ho1 hb1 _ _)
            go_roundg (256 - (i + 1))
            case measure => have := HK.out; omega
            case rel => exact ⟨i + 1, by omega, rfl, by go_num, by rw [HP.out]; exact ho1, hb1⟩
          | false =>
            have HP := Lib.hid (presTo_miss bs i hb)
            rw [hb] at hix
            clear hb
            go_wp2
            go_roundg (256 - (i + 1))
            case measure => have := HK.out; omega
            case rel => exact ⟨i + 1, by omega, rfl, by go_num, by rw [HP.out]; exact HO.out, HB.out⟩
        · obtain rfl : i = 256 := by omega
          go_wp2
          go_ret
          exact ⟨_, rfl, by rw [HBS.out]; exact HO.out, HB.out⟩
end Go.Proofs.Ythkpjjkjdklpmaa
