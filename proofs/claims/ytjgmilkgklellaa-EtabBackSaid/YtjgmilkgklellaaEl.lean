/- The layer etab's laws: EtabTells, EtabSteps. -/
import Derived.Test.YtjgmilkgklellaaEa
namespace Go.Proofs.Ytjgmilkgklellaa
open Go.RowKit Go.Proofs.YtjgmilkgklellaaW.PrintWords Go.Proofs.YtjgmilkgklellaaW.PrintLast Go.Proofs.YtjgmilkgklellaaW.PrintMore PPr HK
attribute [local go_sem] max2_int min2_int max_two min_two max_three min_three max_four min_four
set_option linter.unusedSimpArgs false
set_option linter.unusedVariables false
theorem C_of_row {k : IntKind} {w : World} {a : Option Addr} {n : Nat} {q : List Int} (h : ReadsInt w k a n q) : Kd.C (Kd.int k) w a n q := Kd.C_of_reads (readsInt_of.1 h)
/-- New, of normalized counts -/
theorem enew_at {q : List Int} {r : Nat} (hq : IsN q r) {L : List S} (hL : OrdL q L) : ∀ (A : Option Addr) (c : Nat) (w : World), Kd.C (Kd.int .i64) w A q.length q → q.length ≤ c →
    Calls Try.prog 10 #[.slice A q.length c] w fun e w' => ∃ g, e = .returned (.tuple #[.pointer (some ⟨g, 0, none⟩), .int .i64 0]) ∧ IsTbl w' g (r : Int) (symL L) ∧ Below w.heap.size w w' := by
  intro A c w hr hc
  have hN := hq.nq
  obtain ⟨k1, h1⟩ := (spreadOf_ev hq hL).rounds
  have h2 := spreadLog_ev q (by rw [hN.len]; omega)
  rw [hq.lg] at h2
  obtain ⟨k2, h2⟩ := h2.rounds
  exact enew_ok A c q w hr hc h1 h2 (by have := hL.len hN; have := hN.sm; rw [symL_len]; omega) (symL_ok hL)
theorem ecount_at {q : List Int} {r : Nat} (hq : IsN q r) {L : List S} (hL : OrdL q L) (s : Nat) (hs : s < 256) : ∀ (g : Nat) (w : World), IsTbl w g (r : Int) (symL L) →
    Calls Try.prog 13 #[.pointer (some ⟨g, 0, none⟩), .int .u8 (s : Int)] w fun e w' => e = .returned (.int .i64 (q.getD s 0)) ∧ w' = w := by
  intro g w h
  have := ecount_any g r (symL L) (s : Int) w h (by omega) (by omega)
  rwa [plc_all hL hq.nq s hs] at this
theorem tbl_len {q : List Int} {r : Nat} (hq : IsN q r) {L : List S} (hL : OrdL q L) : (symL L).length ≤ 4096 := by
  have := hL.len hq.nq
  have := hq.nq.sm
  rw [symL_len]; omega
theorem estep_at {q : List Int} {r : Nat} (hq : IsN q r) {L : List S} (hL : OrdL q L) (s : Nat) (hs : s < 256) (h0 : 0 < q.getD s 0) {x : Int} (x0 : 0 ≤ x) (x1 : x < p2 r) {N : Nat} {i : Int} (h : Way q r s x N i) : ∀ (g : Nat) (w : World), IsTbl w g (r : Int) (symL L) →
    Calls Try.prog 15 #[.pointer (some ⟨g, 0, none⟩), .int .i64 x, .int .u8 (s : Int)] w fun e w' => e = .returned (.tuple #[.int .i64 (placeZ q (key q s i) : Int), .int .i64 (N : Int), .int .u32 ((p2 r + x) % p2 N), .bool true]) ∧ Below w.heap.size w w' := by
  intro g w hT
  have hcnt := plc_all hL hq.nq s hs
  have hNr := h.Nr
  have hr1 := hq.r1
  have hi0 := h.i0
  have hi1 := h.i1
  obtain ⟨j, hj⟩ : ∃ j : Nat, i = q.getD s 0 + (j : Int) := ⟨(i - q.getD s 0).toNat, by omega⟩
  have hst := estep_ok g r (symL L) x (s : Int) w (r : Int) rfl hT hr1 (tbl_len hq hL) x0 x1 (by omega) (by omega) (n := N) (cnt := (plcTo (symL L) (s : Int) (symL L).length).length) (j := j) rfl (by omega) (by rw [hcnt]; exact h.f) (by omega) (by rw [h.d, hcnt]; exact hj) (by omega)
  rwa [plc_key hL hq.nq s hs i hi0 hi1 j hj] at hst
theorem estepN_at {q : List Int} {r : Nat} (hq : IsN q r) {L : List S} (hL : OrdL q L) (s : Nat) (hs : s < 256) {x : Int} (b0 : -9223372036854775808 ≤ x) (b1 : x ≤ 9223372036854775807) (h : x < 0 ∨ p2 r ≤ x ∨ q.getD s 0 = 0) : ∀ (g : Nat) (w : World), IsTbl w g (r : Int) (symL L) →
    Calls Try.prog 15 #[.pointer (some ⟨g, 0, none⟩), .int .i64 x, .int .u8 (s : Int)] w fun e w' => e = .returned (.tuple #[.int .i64 0, .int .i64 0, .int .u32 0, .bool false]) ∧ Below w.heap.size w w' := by
  intro g w hT
  have hcnt := plc_all hL hq.nq s hs
  exact estep_no g r (symL L) x (s : Int) w (r : Int) rfl hT hq.r1 (tbl_len hq hL) (by omega) (by omega) b0 b1 rfl (by omega)
theorem some_at (l : List Int) (a : Int) (hw : ∀ x ∈ l, (Lit.int .u16 x).wf = true) (h0 : 0 ≤ a) (h1 : a ≤ 255) : ∃ (q : List Int) (k : Nat), SomeQ q k ∧ ∀ (A : Option Addr) (c : Nat) (w : World), Kd.C (Kd.int .u16) w A l.length l → l.length ≤ c →
    Calls Try.prog 14 #[.slice A l.length c, .int .u8 a] w fun e w' => ∃ A1 c1, e = .returned (.tuple #[.slice A1 q.length c1, .int .i64 (k : Int)]) ∧ Kd.C (Kd.int .i64) w' A1 q.length q ∧ q.length ≤ c1 ∧ Below w.heap.size w w' := by
  obtain ⟨q, k, hq, sq⟩ := someQ_ev l a hw h0 h1
  obtain ⟨k1, hk⟩ := hq.rounds
  refine ⟨q, k, sq, fun A c w hr hc => (puncheonref08_Some.calls k1 A c l a q (k : Int) w hr hc hk).mono ?_⟩
  rintro e w' ⟨v0, rfl, hR, hb⟩
  obtain ⟨A1, c1, rfl⟩ := Kd.R_slice hR
  obtain ⟨_, hle, hC⟩ := Kd.R_reads' hR
  exact ⟨A1, c1, rfl, hC, hle, hb⟩
set_option maxRecDepth 20000 in
set_option maxHeartbeats 2000000 in
theorem etells_walk (a : Option Addr) (len cap : Nat) (zs : List Int) (s : Int) (w : World) (h : IsRow .i64 w a len cap zs) (y : len * 8 ≤ 140737488351232) (h1 : (Lit.int .u8 s).wf = true) :
    Calls Try.prog 3 #[.slice a len cap, .int .u8 s] w fun e w' => e = .returned (.bool true) ∧ Below w.heap.size w w' := by
  obtain ⟨q, rfl, hr, hle, hwf⟩ := h.reads (by omega)
  have h1 := bounds_u8 h1
  have R0 := Lib.hid (C_of_row hr)
  have HB := Lib.hid (Below.refl w.heap.size w)
  obtain ⟨bf, hf⟩ := few_ev q (by omega)
  obtain ⟨kf, hf⟩ := hf.rounds
  have HF := Lib.hid (fun w hr => puncheonref10_Few.calls kf a cap q bf w hr hle hf)
  clear h hr hwf hf
  obtain ⟨s, rfl⟩ : ∃ n : Nat, s = (n : Int) := ⟨s.toNat, by omega⟩
  by_cases hs : q.length ≤ 300
  · cases bf with
    | false =>
      go_enter Try.func3, Try.ntmps3
      go_wp2_with (first
        | (go_at_call 8; (with_reducible refine (awake12 _).mono ?_); rintro e w1 ⟨rfl, hb⟩; replace R0 := Lib.hid (Kd.C_below R0.out hb); replace HB := Lib.hid (below_then' HB.out hb); clear hb)
        | (go_at_call 9; (with_reducible refine (HF.out _ R0.out).mono ?_); rintro e w1 ⟨rfl, nd, rfl⟩; replace HB := Lib.hid (pw_below_drewN HB.out nd)))
      go_ret
      exact ⟨rfl, HB.out⟩
    | true =>
      rcases isN_or q with ⟨r, hN, hlg⟩ | hlg
      · obtain ⟨L, hL⟩ := ordL_ex hN.nq
        have HN := Lib.hid (enew_at hN hL)
        have HLG := rlog_ev q (by omega)
        rw [hlg] at HLG
        obtain ⟨k3, hk3⟩ := HLG.rounds
        have HLR := Lib.hid (fun w hr => puncheonref08_Log.calls k3 a cap q (r : Int) w hr hle hk3)
        have HC := Lib.hid (ecount_at hN hL s (by omega))
        have HTL := Lib.hid (fun g w (h : IsTbl w g (r : Int) (symL L)) => elog_any g (r : Int) (symL L) w h)
        have hz : ((r : Int) == 0) = false := by rw [beq_eq_false_iff_ne]; have := hN.r0; omega
        have i0 : (0 : Int) ≤ (s : Int) := by omega
        have i1 : (s : Int) < (q.length : Int) := by have := hN.nq.len; omega
        have HL := Lib.hid (show ∀ W, Kd.C (Kd.int .i64) W a q.length q → ∃ ad, a = some ad ∧ W.cell? (ad.add s) = some (.int .i64 (q.getD s 0)) from fun W h => by
          obtain ⟨ad, e, hc⟩ := Kd.at_int h (s : Int) i0 i1
          rw [Int.toNat_natCast] at hc
          exact ⟨ad, e, hc⟩)
        obtain ⟨ad, rfl, _⟩ := HL.out w R0.out
        have HL2 := Lib.hid (show ∀ W, Kd.C (Kd.int .i64) W (some ad) q.length q → W.cell? (ad.add s) = some (.int .i64 (q.getD s 0)) from fun W h => by
          obtain ⟨ad', e, hc⟩ := HL.out W h
          cases e
          exact hc)
        clear HL hk3 HLG hlg hN hL
        generalize q.getD s 0 = X at *
        generalize symL L = sl at *
        go_enter Try.func3, Try.ntmps3
        go_wp2_with (first
          | (go_at_call 8; (with_reducible refine (awake12 _).mono ?_); rintro e w1 ⟨rfl, hb⟩; replace R0 := Lib.hid (Kd.C_below R0.out hb); replace HB := Lib.hid (below_then' HB.out hb); clear hb)
          | (go_at_call 9; (with_reducible refine (HF.out _ R0.out).mono ?_); rintro e w1 ⟨rfl, nd, rfl⟩; replace R0 := Lib.hid (Kd.C_drewN R0.out nd); replace HB := Lib.hid (pw_below_drewN HB.out nd))
          | (go_at_call 10; (with_reducible refine (HN.out _ _ _ R0.out hle).mono ?_); rintro e w1 ⟨g, rfl, hT, hb⟩; have HT := Lib.hid hT; replace R0 := Lib.hid (Kd.C_below R0.out hb); replace HB := Lib.hid (below_then' HB.out hb); clear hb hT)
          | (go_at_call 11; (with_reducible refine (HLR.out _ R0.out).mono ?_); rintro e w9 ⟨rfl, nd, rfl⟩; replace HT := Lib.hid (HT.out.below (pw_below_drewN (Below.refl _ _) nd)); replace R0 := Lib.hid (Kd.C_drewN R0.out nd); replace HB := Lib.hid (pw_below_drewN HB.out nd)))
        generalize w1.drewN nd = wd at HT R0 HB ⊢
        replace HT := Lib.hid (HT.out.below (Below.refl _ _).drew)
        replace R0 := Lib.hid (Kd.C_drew R0.out)
        replace HB := Lib.hid HB.out.drew
        go_region_held3 (fun W => W.cell? (ad.add s) = some (.int .i64 X)) (exact HL2.out _ R0.out) (first
          | (go_at_call 12; (with_reducible refine (HTL.out _ _ HT.out).mono ?_); rintro e w3 ⟨rfl, rfl⟩)
          | (go_at_call 13; (with_reducible refine (HC.out _ _ HT.out).mono ?_); rintro e w3 ⟨rfl, rfl⟩))
        go_wp2
        go_ret
        exact ⟨rfl, HB.out⟩
      · obtain ⟨k1, hk1⟩ := (spreadOf_no (q := q) (by omega) hlg).rounds
        have HN := Lib.hid (fun w hr => enew_no a cap q w hr hle hk1)
        have HLG := rlog_ev q (by omega)
        rw [hlg] at HLG
        obtain ⟨k3, hk3⟩ := HLG.rounds
        have HLR := Lib.hid (fun w hr => puncheonref08_Log.calls k3 a cap q 0 w hr hle hk3)
        clear hk1 hk3 HLG hlg
        go_enter Try.func3, Try.ntmps3
        go_wp2_with (first
          | (go_at_call 8; (with_reducible refine (awake12 _).mono ?_); rintro e w1 ⟨rfl, hb⟩; replace R0 := Lib.hid (Kd.C_below R0.out hb); replace HB := Lib.hid (below_then' HB.out hb); clear hb)
          | (go_at_call 9; (with_reducible refine (HF.out _ R0.out).mono ?_); rintro e w1 ⟨rfl, nd, rfl⟩; replace R0 := Lib.hid (Kd.C_drewN R0.out nd); replace HB := Lib.hid (pw_below_drewN HB.out nd))
          | (go_at_call 10; (with_reducible refine (HN.out _ R0.out).mono ?_); rintro e w1 ⟨rfl, hb⟩; replace R0 := Lib.hid (Kd.C_below R0.out hb); replace HB := Lib.hid (below_then' HB.out hb); clear hb)
          | (go_at_call 11; (with_reducible refine (HLR.out _ R0.out).mono ?_); rintro e w1 ⟨rfl, nd, rfl⟩; replace R0 := Lib.hid (Kd.C_drewN R0.out nd); replace HB := Lib.hid (pw_below_drewN HB.out nd)))
        go_ret
        exact ⟨rfl, HB.out⟩
  · go_enter Try.func3, Try.ntmps3
    go_wp2_with (first
      | (go_at_call 8; (with_reducible refine (awake12 _).mono ?_); rintro e w1 ⟨rfl, hb⟩; replace R0 := Lib.hid (Kd.C_below R0.out hb); replace HB := Lib.hid (below_then' HB.out hb); clear hb)
      | (go_at_call 9; (with_reducible refine (HF.out _ R0.out).mono ?_); rintro e w1 ⟨rfl, nd, rfl⟩; replace HB := Lib.hid (pw_below_drewN HB.out nd)))
    go_ret
    exact ⟨rfl, HB.out⟩
theorem rstep_at {q : List Int} {x s : Int} {r1 r2 r3 : Int} {r4 : Bool} (h : Ev (fun k => puncheonref12_Step.f k q x s) (r1, r2, r3, r4)) : ∀ (A : Option Addr) (c : Nat) (w : World), Kd.C (Kd.int .i64) w A q.length q → q.length ≤ c →
    Calls Try.prog 16 #[.slice A q.length c, .int .i64 x, .int .i64 s] w fun e w' => e = .returned (.tuple #[.int .i64 r1, .int .i64 r2, .int .u32 r3, .bool r4]) ∧ Drawn0 w w' := by
  intro A c w hr hc
  obtain ⟨k, hk⟩ := h.rounds
  exact puncheonref12_Step.calls k A c q x s r1 r2 r3 r4 w hr hc hk
set_option maxRecDepth 20000 in
set_option maxHeartbeats 2000000 in
theorem esteps_in (a : Option Addr) (cap : Nat) (l : List Int) (r x s : Int) (w : World) (R0 : Hid (Kd.C (Kd.int .u16) w a l.length l)) (hle : l.length ≤ cap) (hs : l.length ≤ 80) {q : List Int} {g2 : World → Nat → Prop}
    (HS : Hid (∀ (A : Option Addr) (c : Nat) (w : World), Kd.C (Kd.int .u16) w A l.length l → l.length ≤ c → Calls Try.prog 14 #[.slice A l.length c, .int .u8 r] w fun e w' => ∃ A1 c1 k, e = .returned (.tuple #[.slice A1 q.length c1, .int .i64 k]) ∧ Kd.C (Kd.int .i64) w' A1 q.length q ∧ q.length ≤ c1 ∧ Below w.heap.size w w'))
    (HN : Hid (∀ (A : Option Addr) (c : Nat) (w : World), Kd.C (Kd.int .i64) w A q.length q → q.length ≤ c → Calls Try.prog 10 #[.slice A q.length c] w fun e w' => ∃ g, e = .returned (.tuple #[.pointer (some ⟨g, 0, none⟩), .int .i64 0]) ∧ g2 w' g ∧ Below w.heap.size w w'))
    {v1 v2 v3 : Int} {v4 : Bool}
    (HT : Hid (∀ (g : Nat) (w : World), g2 w g → Calls Try.prog 15 #[.pointer (some ⟨g, 0, none⟩), .int .i64 x, .int .u8 s] w fun e w' => e = .returned (.tuple #[.int .i64 v1, .int .i64 v2, .int .u32 v3, .bool v4]) ∧ Below w.heap.size w w'))
    (HQ : Hid (∀ (A : Option Addr) (c : Nat) (w : World), Kd.C (Kd.int .i64) w A q.length q → q.length ≤ c → Calls Try.prog 16 #[.slice A q.length c, .int .i64 x, .int .i64 s] w fun e w' => e = .returned (.tuple #[.int .i64 v1, .int .i64 v2, .int .u32 v3, .bool v4]) ∧ Drawn0 w w')) (hs0 : 0 ≤ s) (hs1 : s ≤ 255) :
    Calls Try.prog 4 #[.slice a l.length cap, .int .u8 r, .int .i64 x, .int .u8 s] w fun e w' => e = .returned (.bool true) ∧ Below w.heap.size w w' := by
  have HB := Lib.hid (Below.refl w.heap.size w)
  have ws : IntKind.i64.wrap s = s := IntWalk.i64_in _ (by omega)
  go_enter Try.func4, Try.ntmps4
  go_wp2_with (first
    | (go_at_call 8; (with_reducible refine (awake12 _).mono ?_); rintro e w1 ⟨rfl, hb⟩; replace R0 := Lib.hid (Kd.C_below R0.out hb); replace HB := Lib.hid (below_then' HB.out hb); clear hb)
    | (go_at_call 14; (with_reducible refine (HS.out _ _ _ R0.out hle).mono ?_); rintro e w1 ⟨A1, c1, k, rfl, hr, hc1, hb⟩; have RQ := Lib.hid hr; replace HB := Lib.hid (below_then' HB.out hb); clear hb hr)
    | (go_at_call 10; (with_reducible refine (HN.out _ _ _ RQ.out hc1).mono ?_); rintro e w1 ⟨g, rfl, hT, hb⟩; have HG := Lib.hid hT; replace RQ := Lib.hid (Kd.C_below RQ.out hb); replace HB := Lib.hid (below_then' HB.out hb); clear hb hT)
    | (go_at_call 15; (with_reducible refine (HT.out _ _ HG.out).mono ?_); rintro e w1 ⟨rfl, hb⟩; replace RQ := Lib.hid (Kd.C_below RQ.out hb); replace HB := Lib.hid (below_then' HB.out hb); clear hb)
    | (go_at_call 16; (with_reducible refine (HQ.out _ _ _ RQ.out hc1).mono ?_); rintro e w9 ⟨rfl, nd, rfl⟩; replace HB := Lib.hid (pw_below_drewN HB.out nd)))
  go_ret
  exact ⟨rfl, HB.out⟩
set_option maxRecDepth 20000 in
set_option maxHeartbeats 2000000 in
theorem esteps_walk (a : Option Addr) (len cap : Nat) (zs : List Int) (r x s : Int) (w : World) (h : IsRow .u16 w a len cap zs) (y : len * 2 ≤ 140737488351232) (h1 : (Lit.int .u8 r).wf = true) (h2 : (Lit.int .i64 x).wf = true) (h3 : (Lit.int .u8 s).wf = true) :
    Calls Try.prog 4 #[.slice a len cap, .int .u8 r, .int .i64 x, .int .u8 s] w fun e w' => e = .returned (.bool true) ∧ Below w.heap.size w w' := by
  obtain ⟨l, rfl, hr, hle, hwf⟩ := h.reads (by omega)
  have h1 := bounds_u8 h1
  have h2 := bounds_i64 h2
  have h3 := bounds_u8 h3
  have R0 := Lib.hid (C_of_row hr)
  by_cases hs : l.length ≤ 80
  · obtain ⟨q, k, sq, hS⟩ := some_at l r hwf h1.1 h1.2
    have HS := Lib.hid (show ∀ (A : Option Addr) (c : Nat) (w : World), Kd.C (Kd.int .u16) w A l.length l → l.length ≤ c → Calls Try.prog 14 #[.slice A l.length c, .int .u8 r] w fun e w' => ∃ A1 c1 k, e = .returned (.tuple #[.slice A1 q.length c1, .int .i64 k]) ∧ Kd.C (Kd.int .i64) w' A1 q.length q ∧ q.length ≤ c1 ∧ Below w.heap.size w w' from
      fun A c w hr hc => (hS A c w hr hc).mono fun e w' ⟨A1, c1, e1, e2, e3, e4⟩ => ⟨A1, c1, _, e1, e2, e3, e4⟩)
    have hN := sq.N
    obtain ⟨L, hL⟩ := ordL_ex hN.nq
    obtain ⟨s, rfl⟩ : ∃ n : Nat, s = (n : Int) := ⟨s.toNat, by omega⟩
    have hnn := hN.nq.nn s
    have HN := Lib.hid (enew_at hN hL)
    by_cases hw : x < 0 ∨ p2 k ≤ x ∨ q.getD s 0 = 0
    · exact esteps_in a cap l r x s w R0 hle hs HS HN (Lib.hid (estepN_at hN hL s (by omega) h2.1 h2.2 hw)) (Lib.hid (rstep_at (rstep_no hN s (by omega) x hw))) h3.1 h3.2
    · obtain ⟨N, i, hway⟩ := way_ex hN s (by omega) x (by omega) (by omega)
      exact esteps_in a cap l r x s w R0 hle hs HS HN (Lib.hid (estep_at hN hL s (by omega) (by omega) (by omega) (by omega) hway)) (Lib.hid (rstep_at (rstep_yes hN s (by omega) (by omega) (by omega) (by omega) hway))) h3.1 h3.2
  · have HB := Lib.hid (Below.refl w.heap.size w)
    clear h hr hwf
    go_enter Try.func4, Try.ntmps4
    go_wp2_with (go_at_call 8; (with_reducible refine (awake12 _).mono ?_); rintro e w1 ⟨rfl, hb⟩; replace HB := Lib.hid (below_then' HB.out hb); clear hb)
    go_ret
    exact ⟨rfl, HB.out⟩
end Go.Proofs.Ytjgmilkgklellaa
