/- The layer etab's laws: the chapter's example, and the contracts as the laws use them. -/
import Derived.Test.YtjgmilkgklellaaEp
import Derived.Test.YtjgmilkgklellaaEu
import Derived.Test.YtjgmilkgklellaaPPrx11
import Derived.Test.YtjgmilkgklellaaPPrx7
import Derived.Test.YtjgmilkgklellaaPPrx7
import Derived.Test.YtjgmilkgklellaaPPrx12
import Derived.Test.YtjgmilkgklellaaPPrx13
namespace Go.Proofs.Ytjgmilkgklellaa
open Go.RowKit Go.Proofs.YtjgmilkgklellaaW.PrintWords Go.Proofs.YtjgmilkgklellaaW.PrintLast Go.Proofs.YtjgmilkgklellaaW.PrintMore PPr HK
attribute [local go_sem] max2_int min2_int max_two min_two max_three min_three max_four min_four
set_option linter.unusedSimpArgs false
set_option linter.unusedVariables false
theorem info_i64' : (Try.prog.info? 3).map (fun i => (i.zero, i.size, i.bytes)) = some (some (.int .i64 0), 1, 8) := by kernel_rfl
def qa : List Int := (((List.replicate 256 (0 : Int)).set 0 5).set 1 2).set 2 1
theorem rep_len : (List.replicate (Int.toNat 256) (0 : Int)).length = 256 := List.length_replicate
theorem qa_len : qa.length = 256 := by
  unfold qa
  rw [List.length_set, List.length_set, List.length_set, List.length_replicate]
theorem qa_of : spread_Of.f 3000 qa = some ([0, 1, 2, 0, 0, 1, 0, 0], 0) := by decide +kernel
theorem qa_log : spread_Log.f 3000 qa = some 3 := by decide +kernel
theorem p2_3 : p2 3 = 8 := by decide
theorem enew_qa (A : Option Addr) (c : Nat) (w : World) (hr : Kd.C (Kd.int .i64) w A 256 qa) (hc : 256 ≤ c) :
    Calls Try.prog 10 #[.slice A 256 c] w fun e w' => ∃ g, e = .returned (.tuple #[.pointer (some ⟨g, 0, none⟩), .int .i64 0]) ∧ IsTbl w' g 3 [0, 1, 2, 0, 0, 1, 0, 0] ∧ Below w.heap.size w w' := by
  have := enew_ok A c qa w (by rw [qa_len]; exact hr) (by rw [qa_len]; exact hc) qa_of qa_log (by decide) (by decide)
  rwa [qa_len] at this
theorem put_len {k : IntKind} {e : TypeId} {W : World} {base g n cap : Nat} {ok : Nat → Prop} {xs : List Int} (h : Kd.R (Kd.int k) e W base ok (.slice (some ⟨g, 0, none⟩) n cap) xs) (hn : n = xs.length) (i : Nat) (x : Int) : Kd.R (Kd.int k) e (W.setCell ⟨g, i, none⟩ (.int k x)) base ok (.slice (some ⟨g, 0, none⟩) n cap) (xs.set i x) := by
  subst hn
  exact (Kd.R_put h (i : Int) x).1
theorem qa_row {w1 : World} {base g cap : Nat} {ok : Nat → Prop} (h : Kd.R (Kd.int .i64) 3 w1 base ok (.slice (some ⟨g, 0, none⟩) (List.replicate (Int.toNat 256) (0 : Int)).length cap) (List.replicate (Int.toNat 256) 0)) :
    (w1.cell? ⟨g, 0, none⟩ = some (.int .i64 0) ∧ w1.frozen? ⟨g, 0, none⟩ = false) ∧ (w1.cell? ⟨g, 1, none⟩ = some (.int .i64 0) ∧ w1.frozen? ⟨g, 1, none⟩ = false) ∧ (w1.cell? ⟨g, 2, none⟩ = some (.int .i64 0) ∧ w1.frozen? ⟨g, 2, none⟩ = false) ∧
    Kd.C (Kd.int .i64) (((w1.setCell ⟨g, 0, none⟩ (.int .i64 5)).setCell ⟨g, 1, none⟩ (.int .i64 2)).setCell ⟨g, 2, none⟩ (.int .i64 1)) (some ⟨g, 0, none⟩) 256 qa ∧ 256 ≤ cap :=
  ⟨Kd.R_cell (0 : Int) h 0 (by decide) (by rw [rep_len]; decide), Kd.R_cell (0 : Int) h 1 (by decide) (by rw [rep_len]; decide), Kd.R_cell (0 : Int) h 2 (by decide) (by rw [rep_len]; decide), by
    have h0 := h
    rw [rep_len] at h0
    have h3 := (Kd.R_reads' (put_len (put_len (put_len h0 rep_len.symm 0 5) (by rw [List.length_set, rep_len]) 1 2) (by rw [List.length_set, List.length_set, rep_len]) 2 1)).2.2
    rw [show ((((List.replicate (Int.toNat 256) (0 : Int)).set 0 5).set 1 2).set 2 1).length = 256 by rw [List.length_set, List.length_set, List.length_set, rep_len]] at h3
    exact h3, by have := (Kd.R_reads' h).2.1; rwa [rep_len] at this⟩
set_option maxRecDepth 20000 in
set_option maxHeartbeats 1600000 in
theorem awake12 (w : World) :
    Calls Try.prog 8 #[] w fun e w' => e = .returned (.bool true) ∧ Below w.heap.size w w' := by
  have HN := Lib.hid enew_qa
  have HS := Lib.hid (fun g w h => estep_ok g 3 [0, 1, 2, 0, 0, 1, 0, 0] 7 1 w 3 rfl h (by omega) (by decide) (by omega) (by rw [p2_3]; omega) (by omega) (by omega) (n := 2) (cnt := 2) (j := 1) (by decide) (by omega) (by decide +kernel) (by omega) (by decide +kernel) (by omega))
  rw [show ((plcTo [0, 1, 2, 0, 0, 1, 0, 0] 1 [(0 : Int), 1, 2, 0, 0, 1, 0, 0].length).getD 1 0) = 5 by decide, show (p2 3 + 7) % p2 2 = 3 by decide] at HS
  have HC := Lib.hid (fun g w h => ecount_any g 3 [0, 1, 2, 0, 0, 1, 0, 0] 0 w h (by omega) (by omega))
  rw [show (plcTo [0, 1, 2, 0, 0, 1, 0, 0] 0 [(0 : Int), 1, 2, 0, 0, 1, 0, 0].length).length = 5 by decide] at HC
  have HL := Lib.hid (fun g w h => elog_any g 3 [0, 1, 2, 0, 0, 1, 0, 0] w h)
  go_enter Try.func8, Try.ntmps8
  go_wp2_with (first
    | (refine Kd.R_make (Kd.int .i64) _ 3 rfl (N := 8) rfl 22 _ _ rfl 256 rfl rfl Try.underlying22 (.int .i64 0) 8 info_i64' rfl (by decide) (by omega) 0 (ok := fun _ => True) (okp := fun _ => True) rfl (fun _ hk => hk) trivial (by omega) (by omega) (Below.refl _ _) (Nat.le_refl _) ?_; intro v1 w1 ho hb hg hnew; clear hg hnew; obtain ⟨g, cap, rfl, hg, hlt, _, hty⟩ := Kd.R_form ho (by rw [rep_len]; decide); clear hty; have HB := Lib.hid (((hb.setCell (show w.heap.size ≤ (⟨g, 0, none⟩ : Addr).block from hg) (.int .i64 5)).setCell (show w.heap.size ≤ (⟨g, 1, none⟩ : Addr).block from hg) (.int .i64 2)).setCell (show w.heap.size ≤ (⟨g, 2, none⟩ : Addr).block from hg) (.int .i64 1)); obtain ⟨⟨c0, f0⟩, ⟨c1, f1⟩, ⟨c2, f2⟩, hrow, hcap⟩ := qa_row ho; have HR := Lib.hid hrow; clear ho hb hrow; rw [rep_len])
    | (go_at_call 10; clear c0 c1 c2 f0 f1 f2; (with_reducible refine (HN.out _ _ _ HR.out hcap).mono ?_); rintro e w2 ⟨g2, rfl, hT, hb⟩; have HT := Lib.hid hT; replace HB := Lib.hid (below_then' HB.out hb); clear hT hb)
    | (go_at_call 15; (with_reducible refine (HS.out _ _ HT.out).mono ?_); rintro e w3 ⟨rfl, hb⟩; replace HT := Lib.hid (HT.out.below hb); replace HB := Lib.hid (below_then' HB.out hb); clear hb)
    | (go_at_call 12; (with_reducible refine (HL.out _ _ HT.out).mono ?_); rintro e w3 ⟨rfl, rfl⟩)
    | (go_at_call 13; (with_reducible refine (HC.out _ _ HT.out).mono ?_); rintro e w3 ⟨rfl, rfl⟩))
  go_ret
  exact ⟨rfl, HB.out⟩
end Go.Proofs.Ytjgmilkgklellaa
