/- The layer etab: Log, Count and Step of a table. -/
import Derived.Test.YtjgmilkgklellaaEt
import Derived.Test.YtjgmilkgklellaaDt
import Derived.Deep.QuietTactic
import Derived.BigQuiet
import Derived.Outline
namespace Go.Proofs.Ytjgmilkgklellaa
open Go.RowKit Go.Maps Go.ChangeShapes Go.Proofs.YtjgmilkgklellaaW.PrintWords Go.Proofs.YtjgmilkgklellaaW.PrintLast Go.Proofs.YtjgmilkgklellaaW.PrintMore PPr
attribute [local go_sem] max2_int min2_int max_two min_two max_three min_three max_four min_four
set_option linter.unusedSimpArgs false
set_option linter.unusedVariables false
set_option maxHeartbeats 800000 in
theorem enew_no (A : Option Addr) (c : Nat) (q : List Int) (w : World) (hr : Kd.C (Kd.int .i64) w A q.length q) (hc : q.length ≤ c) {k1 : Nat} {l : List Int} (hof : spread_Of.f k1 q = some (l, 1)) :
    Calls Try.prog 10 #[.slice A q.length c] w fun e w' => e = .returned (.tuple #[.pointer none, .int .i64 1]) ∧ Below w.heap.size w w' := by
  have HR := Lib.hid hr
  have HOF := Lib.hid (fun w hr => spread_Of.calls k1 A c q l 1 w hr hc hof)
  clear hr hof
  go_enter Try.func10, Try.ntmps10
  go_wp2_with (go_at_call 20; (with_reducible refine (HOF.out _ HR.out).mono ?_); rintro e w1 ⟨v0, rfl, hR, hb⟩; obtain ⟨A1, c1, rfl⟩ := Kd.R_slice hR; have HB := Lib.hid hb; clear hR hb)
  go_ret2
  exact ⟨rfl, HB.out⟩
set_option maxHeartbeats 800000 in
theorem elog_any (g : Nat) (r : Int) (l : List Int) (w : World) (h : IsTbl w g r l) :
    Calls Try.prog 12 #[.pointer (some ⟨g, 0, none⟩)] w fun e w' => e = .returned (.int .i64 r) ∧ w' = w := by
  obtain ⟨B, base, n, D, h1, _⟩ := h
  have hc := blk_cell h1 0
  clear h1
  simp at hc
  go_enter Try.func12, Try.ntmps12
  go_wp2
  go_ret
  exact ⟨rfl, rfl⟩
theorem tbl_cells {w : World} {g B : Nat} {r : Int} (h : w.heap[g]? = some (.cells #[.int .i64 r, .map (some B)] 56 (0, 0))) : w.cell? ⟨g, 0, none⟩ = some (.int .i64 r) ∧ w.cell? ⟨g, 1, none⟩ = some (.map (some B)) :=
  ⟨by rw [blk_cell h]; rfl, by rw [blk_cell h]; rfl⟩
set_option maxHeartbeats 800000 in
theorem ecount_any (g : Nat) (r : Int) (l : List Int) (s : Int) (w : World) (h : IsTbl w g r l) (hs0 : 0 ≤ s) (hs1 : s ≤ 255) :
    Calls Try.prog 13 #[.pointer (some ⟨g, 0, none⟩), .int .u8 s] w fun e w' => e = .returned (.int .i64 ((plcTo l s l.length).length : Int)) ∧ w' = w := by
  obtain ⟨B, base, n, D, h1, hO, hn, hT⟩ := h
  obtain ⟨hc0, hc1⟩ := tbl_cells h1
  have HO := Lib.hid hO
  have HT := Lib.hid hT
  clear h1 hO hT
  go_enter Try.func13, Try.ntmps13
  go_wp2_with (at_lookup; refine wpList_lookup_groups _ rfl _ _ 54 rfl 5 22 3 .i64 law_u8 Try.underlying54 (zero_ints _) base B n D rfl HO.out (by unfold maxLen; omega) _ _ rfl (key_u8 s hs0 hs1) ?_; intro v zs hat hoi hzl hback; obtain rfl := tblD_zs HT.out hs0 hs1 hat hoi; obtain ⟨A1, c1, rfl, _, hr⟩ := own_reads' hoi.1; clear hat hoi hzl hback hr)
  go_ret
  exact ⟨rfl, rfl⟩
theorem shl_p2' (R : Nat) (h : R ≤ 12) : wrap64 (2 ^ R) = p2 R := by
  have hp := p2_12 h
  have hp0 := p2_pos R
  rw [show (2 : Int) ^ R = p2 R by unfold p2; simp]
  unfold wrap64; omega
end Go.Proofs.Ytjgmilkgklellaa
