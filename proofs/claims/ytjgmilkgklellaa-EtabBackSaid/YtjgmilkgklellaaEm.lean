/- The layer etab's laws: EtabBack, EtabForth, EtabBound. -/
import Derived.Test.YtjgmilkgklellaaEl
namespace Go.Proofs.Ytjgmilkgklellaa
open Go.RowKit Go.Proofs.YtjgmilkgklellaaW.PrintWords Go.Proofs.YtjgmilkgklellaaW.PrintLast Go.Proofs.YtjgmilkgklellaaW.PrintMore PPr HK
attribute [local go_sem] max2_int min2_int max_two min_two max_three min_three max_four min_four
set_option linter.unusedSimpArgs false
set_option linter.unusedVariables false
theorem cell_at {w : World} {A : Option Addr} {q : List Int} (h : Kd.C (Kd.int .i64) w A q.length q) (s : Nat) (hs : s < q.length) : ∃ ad, A = some ad ∧ w.cell? (ad.add s) = some (.int .i64 (q.getD s 0)) := by
  obtain ⟨ad, e, hc⟩ := Kd.at_int h (s : Int) (by omega) (by omega)
  rw [Int.toNat_natCast] at hc
  exact ⟨ad, e, hc⟩
theorem cell_on {w : World} {ad : Addr} {q : List Int} (h : Kd.C (Kd.int .i64) w (some ad) q.length q) (s : Nat) (hs : s < q.length) : w.cell? (ad.add s) = some (.int .i64 (q.getD s 0)) := by
  obtain ⟨ad', e, hc⟩ := cell_at h s hs
  cases e
  exact hc
theorem bits_at {w : World} {A : Option Addr} {C : List Cel} (h : Kd.C k49 w A C.length C) (p : Nat) (hp : p < C.length) : ∃ ad, A = some ad ∧ w.cell? ⟨(ad.add (p * 3)).block, (ad.add (p * 3)).off + 1, none⟩ = some (.int .i64 (C.getD p zc).f1) := by
  obtain ⟨ad, e, _, hc, _⟩ := at_T49 h (p : Int) (by omega) (by omega)
  rw [Int.toNat_natCast] at hc
  exact ⟨ad, e, hc⟩
theorem bits_on {w : World} {ad : Addr} {C : List Cel} (h : Kd.C k49 w (some ad) C.length C) (p : Nat) (hp : p < C.length) : w.cell? ⟨(ad.add (p * 3)).block, (ad.add (p * 3)).off + 1, none⟩ = some (.int .i64 (C.getD p zc).f1) := by
  obtain ⟨ad', e, hc⟩ := bits_at h p hp
  cases e
  exact hc
theorem dtab_at {q : List Int} {r : Nat} (hq : IsN q r) {L : List S} (hL : OrdL q L) : ∀ (A : Option Addr) (c : Nat) (w : World), Kd.C (Kd.int .i64) w A q.length q → q.length ≤ c →
    Calls Try.prog 18 #[.slice A q.length c] w fun e w' => ∃ A2 c2, e = .returned (.tuple #[.slice A2 (celL r L).length c2, .int .i64 0]) ∧ Kd.C k49 w' A2 (celL r L).length (celL r L) ∧ (celL r L).length ≤ c2 ∧ Below w.heap.size w w' := by
  intro A c w hr hc
  obtain ⟨k1, hk⟩ := (dtabOf_ev hq hL).rounds
  refine (dtab_Of.calls k1 A c q _ _ w hr hc hk).mono ?_
  rintro e w' ⟨v0, rfl, hR, hb⟩
  obtain ⟨A1, c1, rfl⟩ := Kd.R_slice hR
  obtain ⟨_, hle, hC⟩ := Kd.R_reads' hR
  exact ⟨A1, c1, rfl, hC, hle, hb⟩
set_option maxRecDepth 20000 in
set_option maxHeartbeats 2000000 in
theorem eback_no (a : Option Addr) (cap : Nat) (l : List Int) (r x : Int) (s : Nat) (w : World) (R0 : Hid (Kd.C (Kd.int .u16) w a l.length l)) (hle : l.length ≤ cap) (hs : l.length ≤ 80) {q : List Int} {g2 : World → Nat → Prop} {K n : Nat} {C : List Cel} {st : Int}
    (HS : Hid (∀ (A : Option Addr) (c : Nat) (w : World), Kd.C (Kd.int .u16) w A l.length l → l.length ≤ c → Calls Try.prog 14 #[.slice A l.length c, .int .u8 r] w fun e w' => ∃ A1 c1, e = .returned (.tuple #[.slice A1 q.length c1, .int .i64 (K : Int)]) ∧ Kd.C (Kd.int .i64) w' A1 q.length q ∧ q.length ≤ c1 ∧ Below w.heap.size w w'))
    (HN : Hid (∀ (A : Option Addr) (c : Nat) (w : World), Kd.C (Kd.int .i64) w A q.length q → q.length ≤ c → Calls Try.prog 10 #[.slice A q.length c] w fun e w' => ∃ g, e = .returned (.tuple #[.pointer (some ⟨g, 0, none⟩), .int .i64 0]) ∧ g2 w' g ∧ Below w.heap.size w w'))
    (HG2 : Hid (∀ (g : Nat) (w w' : World), g2 w g → Below w.heap.size w w' → g2 w' g))
    (HD : Hid (∀ (A : Option Addr) (c : Nat) (w : World), Kd.C (Kd.int .i64) w A q.length q → q.length ≤ c → Calls Try.prog 18 #[.slice A q.length c] w fun e w' => ∃ A2 c2, e = .returned (.tuple #[.slice A2 n c2, .int .i64 0]) ∧ Kd.C k49 w' A2 n C ∧ n ≤ c2 ∧ Below w.heap.size w w'))
    (HT : Hid (∀ (g : Nat) (w : World), g2 w g → Calls Try.prog 15 #[.pointer (some ⟨g, 0, none⟩), .int .i64 st, .int .u8 (s : Int)] w fun e w' => e = .returned (.tuple #[.int .i64 0, .int .i64 0, .int .u32 0, .bool false]) ∧ Below w.heap.size w w'))
    (hsq : s < q.length) (hX : q.getD s 0 = 0) (hs1 : s ≤ 255) (hK : K ≤ 12) (hn : (2 : Int) ^ K = (n : Int)) (hn0 : 2 ≤ n) (hn1 : n ≤ 4096) (hst : x % (n : Int) = st) (hx0 : 0 ≤ x) (hx1 : x ≤ 65535) :
    Calls Try.prog 6 #[.slice a l.length cap, .int .u8 r, .int .u16 x, .int .u8 (s : Int)] w fun e w' => e = .returned (.bool true) ∧ Below w.heap.size w w' := by
  have HB := Lib.hid (Below.refl w.heap.size w)
  have wx : IntKind.i64.wrap x = x := IntWalk.i64_in _ (by omega)
  have i0 : (0 : Int) ≤ (s : Int) := by omega
  have i1 : (s : Int) < (q.length : Int) := by omega
  have HC := Lib.hid (show ∀ W A, Kd.C (Kd.int .i64) W A q.length q → ∃ ad, A = some ad ∧ W.cell? (ad.add s) = some (.int .i64 0) from fun W A h => by rw [← hX]; exact cell_at h s hsq)
  have HC2 := Lib.hid (show ∀ W ad, Kd.C (Kd.int .i64) W (some ad) q.length q → W.cell? (ad.add s) = some (.int .i64 0) from fun W ad h => by rw [← hX]; exact cell_on h s hsq)
  clear hX hsq
  go_enter Try.func6, Try.ntmps6
  go_wp2_with (first
    | (go_at_call 8; (with_reducible refine (awake12 _).mono ?_); rintro e w1 ⟨rfl, hb⟩; replace R0 := Lib.hid (Kd.C_below R0.out hb); replace HB := Lib.hid (below_then' HB.out hb); clear hb)
    | (go_at_call 14; (with_reducible refine (HS.out _ _ _ R0.out hle).mono ?_); rintro e w1 ⟨A1, c1, rfl, hr, hc1, hb⟩; obtain ⟨ad, rfl, _⟩ := HC.out _ _ hr; have RQ := Lib.hid hr; replace HB := Lib.hid (below_then' HB.out hb); clear hb hr)
    | (go_at_call 10; (with_reducible refine (HN.out _ _ _ RQ.out hc1).mono ?_); rintro e w1 ⟨g, rfl, hT, hb⟩; have HG := Lib.hid hT; replace RQ := Lib.hid (Kd.C_below RQ.out hb); replace HB := Lib.hid (below_then' HB.out hb); clear hb hT)
    | (go_at_call 18; (with_reducible refine (HD.out _ _ _ RQ.out hc1).mono ?_); rintro e w1 ⟨A2, c2, rfl, _, hc2, hb⟩; replace HG := Lib.hid (HG2.out _ _ _ HG.out hb); replace RQ := Lib.hid (Kd.C_below RQ.out hb); replace HB := Lib.hid (below_then' HB.out hb); clear hb)
    | (go_at_call 15; (with_reducible refine (HT.out _ _ HG.out).mono ?_); rintro e w1 ⟨rfl, hb⟩; replace RQ := Lib.hid (Kd.C_below RQ.out hb); replace HB := Lib.hid (below_then' HB.out hb); clear hb; have hcx := HC2.out _ _ RQ.out))
  go_ret
  exact ⟨rfl, HB.out⟩
set_option maxRecDepth 20000 in
set_option maxHeartbeats 2000000 in
theorem eback_yes (a : Option Addr) (cap : Nat) (l : List Int) (r x : Int) (s : Nat) (w : World) (R0 : Hid (Kd.C (Kd.int .u16) w a l.length l)) (hle : l.length ≤ cap) (hs : l.length ≤ 80) {q : List Int} {g2 : World → Nat → Prop} {K n : Nat} {C : List Cel} {st low X : Int} {p N : Nat}
    (HS : Hid (∀ (A : Option Addr) (c : Nat) (w : World), Kd.C (Kd.int .u16) w A l.length l → l.length ≤ c → Calls Try.prog 14 #[.slice A l.length c, .int .u8 r] w fun e w' => ∃ A1 c1, e = .returned (.tuple #[.slice A1 q.length c1, .int .i64 (K : Int)]) ∧ Kd.C (Kd.int .i64) w' A1 q.length q ∧ q.length ≤ c1 ∧ Below w.heap.size w w'))
    (HN : Hid (∀ (A : Option Addr) (c : Nat) (w : World), Kd.C (Kd.int .i64) w A q.length q → q.length ≤ c → Calls Try.prog 10 #[.slice A q.length c] w fun e w' => ∃ g, e = .returned (.tuple #[.pointer (some ⟨g, 0, none⟩), .int .i64 0]) ∧ g2 w' g ∧ Below w.heap.size w w'))
    (HG2 : Hid (∀ (g : Nat) (w w' : World), g2 w g → Below w.heap.size w w' → g2 w' g))
    (HD : Hid (∀ (A : Option Addr) (c : Nat) (w : World), Kd.C (Kd.int .i64) w A q.length q → q.length ≤ c → Calls Try.prog 18 #[.slice A q.length c] w fun e w' => ∃ A2 c2, e = .returned (.tuple #[.slice A2 n c2, .int .i64 0]) ∧ Kd.C k49 w' A2 n C ∧ n ≤ c2 ∧ Below w.heap.size w w'))
    (HT : Hid (∀ (g : Nat) (w : World), g2 w g → Calls Try.prog 15 #[.pointer (some ⟨g, 0, none⟩), .int .i64 st, .int .u8 (s : Int)] w fun e w' => e = .returned (.tuple #[.int .i64 (p : Int), .int .i64 (N : Int), .int .u32 low, .bool true]) ∧ Below w.heap.size w w'))
    (hsq : s < q.length) (HU : Hid (∀ (A : Option Addr) (c : Nat) (w : World), Kd.C k49 w A n C → n ≤ c → Calls Try.prog 19 #[.slice A n c, .int .i64 (p : Int), .int .u32 low] w fun e w' => e = .returned (.tuple #[.int .u8 (s : Int), .int .i64 st, .bool true]) ∧ Drawn0 w w'))
    (hC : C.length = n) (hp : p < n) (hcel : (C.getD p zc).f1 = (N : Int)) (hX : q.getD s 0 = X) (hX0 : 0 < X) (hs1 : s ≤ 255) (hK : K ≤ 12) (hn : (2 : Int) ^ K = (n : Int)) (hn0 : 2 ≤ n) (hn1 : n ≤ 4096) (hst : x % (n : Int) = st) (hx0 : 0 ≤ x) (hx1 : x ≤ 65535) :
    Calls Try.prog 6 #[.slice a l.length cap, .int .u8 r, .int .u16 x, .int .u8 (s : Int)] w fun e w' => e = .returned (.bool true) ∧ Below w.heap.size w w' := by
  have HB := Lib.hid (Below.refl w.heap.size w)
  have wx : IntKind.i64.wrap x = x := IntWalk.i64_in _ (by omega)
  have i0 : (0 : Int) ≤ (s : Int) := by omega
  have i1 : (s : Int) < (q.length : Int) := by omega
  have HC := Lib.hid (show ∀ W A, Kd.C (Kd.int .i64) W A q.length q → ∃ ad, A = some ad ∧ W.cell? (ad.add s) = some (.int .i64 X) from fun W A h => by rw [← hX]; exact cell_at h s hsq)
  have HC2 := Lib.hid (show ∀ W ad, Kd.C (Kd.int .i64) W (some ad) q.length q → W.cell? (ad.add s) = some (.int .i64 X) from fun W ad h => by rw [← hX]; exact cell_on h s hsq)
  have HY := Lib.hid (show ∀ W A, Kd.C k49 W A n C → ∃ ad, A = some ad ∧ W.cell? ⟨(ad.add (p * 3)).block, (ad.add (p * 3)).off + 1, none⟩ = some (.int .i64 (N : Int)) from fun W A h => by subst hC; rw [← hcel]; exact bits_at h p hp)
  have HY2 := Lib.hid (show ∀ W ad, Kd.C k49 W (some ad) n C → W.cell? ⟨(ad.add (p * 3)).block, (ad.add (p * 3)).off + 1, none⟩ = some (.int .i64 (N : Int)) from fun W ad h => by subst hC; rw [← hcel]; exact bits_on h p hp)
  have j0 : (0 : Int) ≤ (p : Int) := by omega
  have j1 : (p : Int) < (n : Int) := by omega
  have hz : (X == 0) = false := by rw [beq_eq_false_iff_ne]; omega
  have z1 : decide ((p : Int) < 0) = false := decide_eq_false (by omega)
  have z2 : decide ((n : Int) ≤ (p : Int)) = false := decide_eq_false (by omega)
  clear hX hsq hC hcel
  go_enter Try.func6, Try.ntmps6
  go_wp2_with (first
    | (go_at_call 8; (with_reducible refine (awake12 _).mono ?_); rintro e w1 ⟨rfl, hb⟩; replace R0 := Lib.hid (Kd.C_below R0.out hb); replace HB := Lib.hid (below_then' HB.out hb); clear hb)
    | (go_at_call 14; (with_reducible refine (HS.out _ _ _ R0.out hle).mono ?_); rintro e w1 ⟨A1, c1, rfl, hr, hc1, hb⟩; obtain ⟨ad, rfl, _⟩ := HC.out _ _ hr; have RQ := Lib.hid hr; replace HB := Lib.hid (below_then' HB.out hb); clear hb hr)
    | (go_at_call 10; (with_reducible refine (HN.out _ _ _ RQ.out hc1).mono ?_); rintro e w1 ⟨g, rfl, hT, hb⟩; have HG := Lib.hid hT; replace RQ := Lib.hid (Kd.C_below RQ.out hb); replace HB := Lib.hid (below_then' HB.out hb); clear hb hT)
    | (go_at_call 18; (with_reducible refine (HD.out _ _ _ RQ.out hc1).mono ?_); rintro e w1 ⟨A2, c2, rfl, hC, hc2, hb⟩; obtain ⟨ad2, rfl, _⟩ := HY.out _ _ hC; have RC := Lib.hid hC; clear hC; replace HG := Lib.hid (HG2.out _ _ _ HG.out hb); replace RQ := Lib.hid (Kd.C_below RQ.out hb); replace HB := Lib.hid (below_then' HB.out hb); clear hb)
    | (go_at_call 15; (with_reducible refine (HT.out _ _ HG.out).mono ?_); rintro e w1 ⟨rfl, hb⟩; replace RQ := Lib.hid (Kd.C_below RQ.out hb); replace RC := Lib.hid (Kd.C_below RC.out hb); replace HB := Lib.hid (below_then' HB.out hb); clear hb; have hcx := HC2.out _ _ RQ.out)
    | (go_at_call 19; (with_reducible refine (HU.out _ _ _ RC.out hc2).mono ?_); rintro e w9 ⟨rfl, nd, rfl⟩; clear hcx; replace RC := Lib.hid (Kd.C_drewN RC.out nd); replace HB := Lib.hid (pw_below_drewN HB.out nd); have hcy := HY2.out _ _ RC.out))
  go_ret
  exact ⟨rfl, HB.out⟩
theorem st_at {x P : Int} (hP : 1 ≤ P) (hx : 0 ≤ x) : 0 ≤ x % P ∧ x % P < P := ⟨Int.emod_nonneg _ (by omega), Int.emod_lt_of_pos _ (by omega)⟩
theorem step_cel {q : List Int} {r : Nat} (hq : IsN q r) {L : List S} (hL : OrdL q L) {p : Nat} (hp : p < L.length) (m : Int) (m0 : 0 ≤ m) (m1 : m < p2 (kb r (L.getD p z).f0)) :
    dtab_Step.f (celL r L) (p : Int) m = some ((L.getD p z).f2, (L.getD p z).f0 * p2 (kb r (L.getD p z).f0) - p2 r + m, true) := by
  have hk := hL.key p hp
  obtain ⟨f1, f2, f3, f4⟩ := cellK_fit hq hk
  have hcg := celL_get r L p hp
  have hb := p2_12 hq.r1
  have hp0 := p2_pos (cellK r (L.getD p z)).f1.toNat
  have e1 : (cellK r (L.getD p z)).f1 = (kb r (L.getD p z).f0 : Int) := rfl
  have h := step_yes (celL r L) p m (by rw [celL_len]; exact hp) m0 (by rw [hcg]; omega) (by rw [hcg, e1, Int.toNat_natCast]; exact m1) (by rw [hcg]; omega)
  rw [hcg] at h
  exact h
theorem dstep_at {C : List Cel} {p m r1 r2 : Int} {r3 : Bool} (h : dtab_Step.f C p m = some (r1, r2, r3)) : ∀ (A : Option Addr) (c : Nat) (w : World), Kd.C k49 w A C.length C → C.length ≤ c →
    Calls Try.prog 19 #[.slice A C.length c, .int .i64 p, .int .u32 m] w fun e w' => e = .returned (.tuple #[.int .u8 r1, .int .i64 r2, .bool r3]) ∧ Drawn0 w w' :=
  fun A c w hr hc => dtab_Step.calls A c C p m r1 r2 r3 w hr hc h
theorem sym_len {q : List Int} {r : Nat} (hq : IsN q r) {L : List S} (hL : OrdL q L) : (L.length : Int) = p2 r := by rw [hL.len hq.nq, hq.p2]
set_option maxRecDepth 20000 in
set_option maxHeartbeats 2000000 in
theorem eback_walk (a : Option Addr) (len cap : Nat) (zs : List Int) (r x s : Int) (w : World) (h : IsRow .u16 w a len cap zs) (y : len * 2 ≤ 140737488351232) (h1 : (Lit.int .u8 r).wf = true) (h2 : (Lit.int .u16 x).wf = true) (h3 : (Lit.int .u8 s).wf = true) :
    Calls Try.prog 6 #[.slice a len cap, .int .u8 r, .int .u16 x, .int .u8 s] w fun e w' => e = .returned (.bool true) ∧ Below w.heap.size w w' := by
  obtain ⟨l, rfl, hr, hle, hwf⟩ := h.reads (by omega)
  have h1 := bounds_u8 h1
  have h2 := bounds_u16 h2
  have h3 := bounds_u8 h3
  have R0 := Lib.hid (C_of_row hr)
  by_cases hs : l.length ≤ 80
  · obtain ⟨q, k, sq, hS⟩ := some_at l r hwf h1.1 h1.2
    have HS := Lib.hid hS
    have hN := sq.N
    obtain ⟨L, hL⟩ := ordL_ex hN.nq
    obtain ⟨s, rfl⟩ : ∃ n : Nat, s = (n : Int) := ⟨s.toNat, by omega⟩
    have hnn := hN.nq.nn s
    have HN := Lib.hid (enew_at hN hL)
    have HG2 := Lib.hid (fun (g : Nat) (w w' : World) (h : IsTbl w g (k : Int) (symL L)) (hb : Below w.heap.size w w') => h.below hb)
    have HD := Lib.hid (dtab_at hN hL)
    have hlen := sym_len hN hL
    have hcl := celL_len k L
    have hp := p2_12 hN.r1
    have hp0 := p2_mono hN.r0
    rw [p2_1] at hp0
    obtain ⟨st0, st1⟩ := st_at (x := x) (P := p2 k) (by omega) h2.1
    have hsq : s < q.length := by have := hN.nq.len; omega
    have hn : (2 : Int) ^ k = ((celL k L).length : Int) := by rw [pow_p2, hcl, hlen]
    have hst : x % ((celL k L).length : Int) = x % p2 k := by rw [hcl, hlen]
    by_cases hw : q.getD s 0 = 0
    · exact eback_no a cap l r x s w R0 hle hs HS HN HG2 HD (Lib.hid (estepN_at hN hL s (by omega) (by omega) (by omega) (.inr (.inr hw)))) hsq hw (by omega) hN.r1 hn (by omega) (by omega) hst h2.1 h2.2
    · obtain ⟨N, i, hway⟩ := way_ex hN s (by omega) (x % p2 k) st0 st1
      have hkey := hway.key (show s < 256 by omega)
      obtain ⟨t0, t1⟩ := hL.s.there hN.nq hkey
      have hkb := hway.kb hN (by omega) st0 st1
      have hpN := p2_pos N
      have m0 := Int.emod_nonneg (p2 k + x % p2 k) (show p2 N ≠ 0 by omega)
      have m1 := Int.emod_lt_of_pos (p2 k + x % p2 k) (show 0 < p2 N by omega)
      have hdv := Int.mul_ediv_add_emod (p2 k + x % p2 k) (p2 N)
      rw [hway.d, Int.mul_comm] at hdv
      have hd := step_cel hN hL t0 ((p2 k + x % p2 k) % p2 N) m0 (by rw [t1]; show _ < p2 (kb k i); rw [hkb]; exact m1)
      rw [t1] at hd
      have hd : dtab_Step.f (celL k L) (placeZ q (key q s i) : Int) ((p2 k + x % p2 k) % p2 N) = some ((s : Int), i * p2 (kb k i) - p2 k + (p2 k + x % p2 k) % p2 N, true) := hd
      rw [hkb, show i * p2 N - p2 k + (p2 k + x % p2 k) % p2 N = x % p2 k by omega] at hd
      have hc1 : ((celL k L).getD (placeZ q (key q s i)) zc).f1 = (N : Int) := by
        rw [celL_get k L _ t0, t1]
        show ((kb k i : Nat) : Int) = _
        rw [hkb]
      exact eback_yes a cap l r x s w R0 hle hs HS HN HG2 HD (Lib.hid (estep_at hN hL s (by omega) (by omega) st0 st1 hway)) hsq (Lib.hid (dstep_at hd)) rfl (by rw [hcl]; exact t0) hc1 rfl (by omega) (by omega) hN.r1 hn (by omega) (by omega) hst h2.1 h2.2
  · have HB := Lib.hid (Below.refl w.heap.size w)
    clear h hr hwf
    go_enter Try.func6, Try.ntmps6
    go_wp2_with (go_at_call 8; (with_reducible refine (awake12 _).mono ?_); rintro e w1 ⟨rfl, hb⟩; replace HB := Lib.hid (below_then' HB.out hb); clear hb)
    go_ret
    exact ⟨rfl, HB.out⟩
set_option maxRecDepth 20000 in
set_option maxHeartbeats 2000000 in
theorem eforth_in (a : Option Addr) (cap : Nat) (l : List Int) (r x more : Int) (w : World)
    (R0 : Hid (Kd.C (Kd.int .u16) w a l.length l)) (hle : l.length ≤ cap) (hs : l.length ≤ 80) {q : List Int} {g2 : World → Nat → Prop} {K n : Nat} {C : List Cel} {st low : Int} {p b s : Nat}
    (HS : Hid (∀ (A : Option Addr) (c : Nat) (w : World), Kd.C (Kd.int .u16) w A l.length l → l.length ≤ c → Calls Try.prog 14 #[.slice A l.length c, .int .u8 r] w fun e w' => ∃ A1 c1, e = .returned (.tuple #[.slice A1 q.length c1, .int .i64 (K : Int)]) ∧ Kd.C (Kd.int .i64) w' A1 q.length q ∧ q.length ≤ c1 ∧ Below w.heap.size w w'))
    (HN : Hid (∀ (A : Option Addr) (c : Nat) (w : World), Kd.C (Kd.int .i64) w A q.length q → q.length ≤ c → Calls Try.prog 10 #[.slice A q.length c] w fun e w' => ∃ g, e = .returned (.tuple #[.pointer (some ⟨g, 0, none⟩), .int .i64 0]) ∧ g2 w' g ∧ Below w.heap.size w w'))
    (HG2 : Hid (∀ (g : Nat) (w w' : World), g2 w g → Below w.heap.size w w' → g2 w' g))
    (HD : Hid (∀ (A : Option Addr) (c : Nat) (w : World), Kd.C (Kd.int .i64) w A q.length q → q.length ≤ c → Calls Try.prog 18 #[.slice A q.length c] w fun e w' => ∃ A2 c2, e = .returned (.tuple #[.slice A2 n c2, .int .i64 0]) ∧ Kd.C k49 w' A2 n C ∧ n ≤ c2 ∧ Below w.heap.size w w'))
    (HT : Hid (∀ (g : Nat) (w : World), g2 w g → Calls Try.prog 15 #[.pointer (some ⟨g, 0, none⟩), .int .i64 st, .int .u8 (s : Int)] w fun e w' => e = .returned (.tuple #[.int .i64 (p : Int), .int .i64 (b : Int), .int .u32 low, .bool true]) ∧ Below w.heap.size w w'))
    (HU : Hid (∀ (A : Option Addr) (c : Nat) (w : World), Kd.C k49 w A n C → n ≤ c → Calls Try.prog 19 #[.slice A n c, .int .i64 (p : Int), .int .u32 low] w fun e w' => e = .returned (.tuple #[.int .u8 (s : Int), .int .i64 st, .bool true]) ∧ Drawn0 w w'))
    (hC : C.length = n) (hp : p < n) (hcel : (C.getD p zc).f1 = (b : Int)) (hb12 : b ≤ 12) (hK : K ≤ 12) (hn : (2 : Int) ^ K = (n : Int)) (hn0 : 2 ≤ n) (hn1 : n ≤ 4096) (hst : x % (n : Int) = (p : Int)) (hx0 : 0 ≤ x) (hx1 : x ≤ 65535) (hm0 : 0 ≤ more) (hm1 : more ≤ 4294967295) (hlow : more % p2 b = low) :
    Calls Try.prog 7 #[.slice a l.length cap, .int .u8 r, .int .u16 x, .int .u32 more] w fun e w' => e = .returned (.bool true) ∧ Below w.heap.size w w' := by
  have HB := Lib.hid (Below.refl w.heap.size w)
  have wx : IntKind.i64.wrap x = x := IntWalk.i64_in _ (by omega)
  have HY := Lib.hid (show ∀ W A, Kd.C k49 W A n C → ∃ ad, A = some ad ∧ W.cell? ⟨(ad.add (p * 3)).block, (ad.add (p * 3)).off + 1, none⟩ = some (.int .i64 (b : Int)) from fun W A h => by subst hC; rw [← hcel]; exact bits_at h p hp)
  have HY2 := Lib.hid (show ∀ W ad, Kd.C k49 W (some ad) n C → W.cell? ⟨(ad.add (p * 3)).block, (ad.add (p * 3)).off + 1, none⟩ = some (.int .i64 (b : Int)) from fun W ad h => by subst hC; rw [← hcel]; exact bits_on h p hp)
  have j0 : (0 : Int) ≤ (p : Int) := by omega
  have j1 : (p : Int) < (n : Int) := by omega
  have z1 : decide ((b : Int) < 0) = false := decide_eq_false (by omega)
  have z2 : decide (12 < (b : Int)) = false := decide_eq_false (by omega)
  have hpb := p2_12 hb12
  have hpb0 := p2_pos b
  have v1 : IntKind.u32.wrap (p2 b) = p2 b := by show p2 b % 4294967296 = _; omega
  have v2 : IntKind.u32.wrap (p2 b - 1) = p2 b - 1 := by show (p2 b - 1) % 4294967296 = _; omega
  have v3 : p2 b % 4294967296 = p2 b := by omega
  have v4 : (p2 b - 1) % 4294967296 = p2 b - 1 := by omega
  have va : bits .and .u32 more (p2 b - 1) = low := by
    have := bits_mask .u32 32 (by decide) (fun z h0 h1 => by show z % 4294967296 = z; omega) b (by omega) more hm0 (by omega)
    rw [pow_p2] at this
    rw [this, hlow]
  have e1 : (2 : Int) ^ b = p2 b := pow_p2 b
  clear hlow hC hcel
  generalize p2 b = M at *
  go_enter Try.func7, Try.ntmps7
  go_wp2_with (first
    | (go_at_call 8; (with_reducible refine (awake12 _).mono ?_); rintro e w1 ⟨rfl, hb⟩; replace R0 := Lib.hid (Kd.C_below R0.out hb); replace HB := Lib.hid (below_then' HB.out hb); clear hb)
    | (go_at_call 14; (with_reducible refine (HS.out _ _ _ R0.out hle).mono ?_); rintro e w1 ⟨A1, c1, rfl, hr, hc1, hb⟩; have RQ := Lib.hid hr; replace HB := Lib.hid (below_then' HB.out hb); clear hb hr)
    | (go_at_call 10; (with_reducible refine (HN.out _ _ _ RQ.out hc1).mono ?_); rintro e w1 ⟨g, rfl, hT, hb⟩; have HG := Lib.hid hT; replace RQ := Lib.hid (Kd.C_below RQ.out hb); replace HB := Lib.hid (below_then' HB.out hb); clear hb hT)
    | (go_at_call 18; (with_reducible refine (HD.out _ _ _ RQ.out hc1).mono ?_); rintro e w1 ⟨A2, c2, rfl, hC, hc2, hb⟩; obtain ⟨ad2, rfl, hcy⟩ := HY.out _ _ hC; have RC := Lib.hid hC; clear hC; replace HG := Lib.hid (HG2.out _ _ _ HG.out hb); replace HB := Lib.hid (below_then' HB.out hb); clear hb)
    | (go_at_call 19; (with_reducible refine (HU.out _ _ _ RC.out hc2).mono ?_); rintro e w9 ⟨rfl, nd, rfl⟩; clear hcy; replace RC := Lib.hid (Kd.C_drewN RC.out nd); replace HG := Lib.hid (HG2.out _ _ _ HG.out (pw_below_drewN (Below.refl _ _) nd)); replace HB := Lib.hid (pw_below_drewN HB.out nd))
    | (go_at_call 15; (with_reducible refine (HT.out _ _ HG.out).mono ?_); rintro e w1 ⟨rfl, hb⟩; replace RC := Lib.hid (Kd.C_below RC.out hb); replace HB := Lib.hid (below_then' HB.out hb); clear hb; have hcy := HY2.out _ _ RC.out))
  go_ret
  exact ⟨rfl, HB.out⟩
set_option maxRecDepth 20000 in
set_option maxHeartbeats 2000000 in
theorem eforth_walk (a : Option Addr) (len cap : Nat) (zs : List Int) (r x more : Int) (w : World) (h : IsRow .u16 w a len cap zs) (y : len * 2 ≤ 140737488351232) (h1 : (Lit.int .u8 r).wf = true) (h2 : (Lit.int .u16 x).wf = true) (h3 : (Lit.int .u32 more).wf = true) :
    Calls Try.prog 7 #[.slice a len cap, .int .u8 r, .int .u16 x, .int .u32 more] w fun e w' => e = .returned (.bool true) ∧ Below w.heap.size w w' := by
  obtain ⟨l, rfl, hr, hle, hwf⟩ := h.reads (by omega)
  have h1 := bounds_u8 h1
  have h2 := bounds_u16 h2
  have h3 := bounds_u32 h3
  have R0 := Lib.hid (C_of_row hr)
  by_cases hs : l.length ≤ 80
  · obtain ⟨q, k, sq, hS⟩ := some_at l r hwf h1.1 h1.2
    have HS := Lib.hid hS
    have hN := sq.N
    obtain ⟨L, hL⟩ := ordL_ex hN.nq
    have HN := Lib.hid (enew_at hN hL)
    have HG2 := Lib.hid (fun (g : Nat) (w w' : World) (h : IsTbl w g (k : Int) (symL L)) (hb : Below w.heap.size w w') => h.below hb)
    have HD := Lib.hid (dtab_at hN hL)
    have hlen := sym_len hN hL
    have hcl := celL_len k L
    have hp := p2_12 hN.r1
    have hp0 := p2_mono hN.r0
    rw [p2_1] at hp0
    obtain ⟨st0, st1⟩ := st_at (x := x) (P := p2 k) (by omega) h2.1
    obtain ⟨p, hpe⟩ : ∃ p : Nat, x % p2 k = (p : Int) := ⟨(x % p2 k).toNat, by omega⟩
    have hpl : p < L.length := by omega
    have hn : (2 : Int) ^ k = ((celL k L).length : Int) := by rw [pow_p2, hcl, hlen]
    have hst : x % ((celL k L).length : Int) = (p : Int) := by rw [hcl, hlen]; exact hpe
    obtain ⟨s, i, k1, k2, k3, k4⟩ := hL.key p hpl
    have hcin := cell_in (r := k) (i := i) (by have := hN.nq.nn s; omega) (by have := (getD_pos_take q hN.nq.len (((rightB_iff q).1 hN.R).2.1) s).2; rw [hN.p2] at this; omega) hN.r1
    obtain ⟨c0, c1, c2⟩ := hcin
    have hpN := p2_pos (kb k i)
    have m0 := Int.emod_nonneg more (show p2 (kb k i) ≠ 0 by omega)
    have m1 := Int.emod_lt_of_pos more (show 0 < p2 (kb k i) by omega)
    have hd := step_cel hN hL hpl (more % p2 (kb k i)) m0 (by rw [k4]; exact m1)
    rw [k4] at hd
    have hd : dtab_Step.f (celL k L) (p : Int) (more % p2 (kb k i)) = some ((s : Int), i * p2 (kb k i) - p2 k + more % p2 (kb k i), true) := hd
    rw [Int.add_mul, Int.one_mul] at c1
    have hway : ∀ N j, Way q k s (i * p2 (kb k i) - p2 k + more % p2 (kb k i)) N j → N = kb k i ∧ j = i ∧ (p2 k + (i * p2 (kb k i) - p2 k + more % p2 (kb k i))) % p2 N = more % p2 (kb k i) := by
      intro N j hw
      have e : p2 k + (i * p2 (kb k i) - p2 k + more % p2 (kb k i)) = more % p2 (kb k i) + i * p2 (kb k i) := by omega
      have e1 : (p2 k + (i * p2 (kb k i) - p2 k + more % p2 (kb k i))) / p2 (kb k i) = i := by
        rw [e, Int.add_mul_ediv_right _ _ (by omega), Int.ediv_eq_zero_of_lt m0 m1, Int.zero_add]
      have e2 := hw.one (M := kb k i) (by omega) (by rw [e1]; exact k2) (by rw [e1]; exact k3)
      subst e2
      refine ⟨rfl, by rw [← hw.d, e1], ?_⟩
      rw [e, Int.add_mul_emod_self_right, Int.emod_eq_of_lt m0 m1]
    obtain ⟨N, j, hw⟩ := way_ex hN s (by omega) (i * p2 (kb k i) - p2 k + more % p2 (kb k i)) (by omega) (by omega)
    obtain ⟨rfl, rfl, w3⟩ := hway N j hw
    have hT := estep_at hN hL s k1 (by omega) (by omega) (by omega) hw
    rw [w3] at hT
    have hpz := hL.s.place hN.nq p hpl
    rw [k4] at hpz
    rw [hpz] at hT
    have hc1 : ((celL k L).getD p zc).f1 = (kb k j : Int) := by
      rw [celL_get k L _ hpl, k4]
      rfl
    exact eforth_in a cap l r x more w R0 hle hs HS HN HG2 HD (Lib.hid hT) (Lib.hid (dstep_at hd)) rfl (by omega) hc1 (by have := hN.r1; omega) hN.r1 hn (by omega) (by omega) hst h2.1 h2.2 h3.1 h3.2 rfl
  · have HB := Lib.hid (Below.refl w.heap.size w)
    clear h hr hwf
    go_enter Try.func7, Try.ntmps7
    go_wp2_with (go_at_call 8; (with_reducible refine (awake12 _).mono ?_); rintro e w1 ⟨rfl, hb⟩; replace HB := Lib.hid (below_then' HB.out hb); clear hb)
    go_ret
    exact ⟨rfl, HB.out⟩
set_option maxRecDepth 20000 in
set_option maxHeartbeats 2000000 in
theorem ebound_no (a : Option Addr) (cap : Nat) (l : List Int) (r x : Int) (s : Nat) (w : World)
    (R0 : Hid (Kd.C (Kd.int .u16) w a l.length l)) (hle : l.length ≤ cap) (hs : l.length ≤ 80) {q : List Int} {g2 : World → Nat → Prop} {K : Nat} {P st : Int}
    (HS : Hid (∀ (A : Option Addr) (c : Nat) (w : World), Kd.C (Kd.int .u16) w A l.length l → l.length ≤ c → Calls Try.prog 14 #[.slice A l.length c, .int .u8 r] w fun e w' => ∃ A1 c1, e = .returned (.tuple #[.slice A1 q.length c1, .int .i64 (K : Int)]) ∧ Kd.C (Kd.int .i64) w' A1 q.length q ∧ q.length ≤ c1 ∧ Below w.heap.size w w'))
    (HN : Hid (∀ (A : Option Addr) (c : Nat) (w : World), Kd.C (Kd.int .i64) w A q.length q → q.length ≤ c → Calls Try.prog 10 #[.slice A q.length c] w fun e w' => ∃ g, e = .returned (.tuple #[.pointer (some ⟨g, 0, none⟩), .int .i64 0]) ∧ g2 w' g ∧ Below w.heap.size w w'))
    (HG2 : Hid (∀ (g : Nat) (w w' : World), g2 w g → Below w.heap.size w w' → g2 w' g))
    (HT : Hid (∀ (g : Nat) (w : World), g2 w g → Calls Try.prog 15 #[.pointer (some ⟨g, 0, none⟩), .int .i64 st, .int .u8 (s : Int)] w fun e w' => e = .returned (.tuple #[.int .i64 0, .int .i64 0, .int .u32 0, .bool false]) ∧ Below w.heap.size w w'))
    (hsq : s < q.length) (hX : q.getD s 0 = 0) (hs1 : s ≤ 255) (hK : K ≤ 12) (hn : (2 : Int) ^ K = P) (hn0 : 2 ≤ P) (hn1 : P ≤ 4096) (hst : x % P = st) (hx0 : 0 ≤ x) (hx1 : x ≤ 65535) :
    Calls Try.prog 5 #[.slice a l.length cap, .int .u8 r, .int .u16 x, .int .u8 (s : Int)] w fun e w' => e = .returned (.bool true) ∧ Below w.heap.size w w' := by
  have HB := Lib.hid (Below.refl w.heap.size w)
  have wx : IntKind.i64.wrap x = x := IntWalk.i64_in _ (by omega)
  have i0 : (0 : Int) ≤ (s : Int) := by omega
  have i1 : (s : Int) < (q.length : Int) := by omega
  have HC := Lib.hid (show ∀ W A, Kd.C (Kd.int .i64) W A q.length q → ∃ ad, A = some ad ∧ W.cell? (ad.add s) = some (.int .i64 0) from fun W A h => by rw [← hX]; exact cell_at h s hsq)
  have HC2 := Lib.hid (show ∀ W ad, Kd.C (Kd.int .i64) W (some ad) q.length q → W.cell? (ad.add s) = some (.int .i64 0) from fun W ad h => by rw [← hX]; exact cell_on h s hsq)
  clear hX hsq
  go_enter Try.func5, Try.ntmps5
  go_wp2_with (first
    | (go_at_call 8; (with_reducible refine (awake12 _).mono ?_); rintro e w1 ⟨rfl, hb⟩; replace R0 := Lib.hid (Kd.C_below R0.out hb); replace HB := Lib.hid (below_then' HB.out hb); clear hb)
    | (go_at_call 14; (with_reducible refine (HS.out _ _ _ R0.out hle).mono ?_); rintro e w1 ⟨A1, c1, rfl, hr, hc1, hb⟩; obtain ⟨ad, rfl, _⟩ := HC.out _ _ hr; have RQ := Lib.hid hr; replace HB := Lib.hid (below_then' HB.out hb); clear hb hr)
    | (go_at_call 10; (with_reducible refine (HN.out _ _ _ RQ.out hc1).mono ?_); rintro e w1 ⟨g, rfl, hT, hb⟩; have HG := Lib.hid hT; replace RQ := Lib.hid (Kd.C_below RQ.out hb); replace HB := Lib.hid (below_then' HB.out hb); clear hb hT)
    | (go_at_call 15; (with_reducible refine (HT.out _ _ HG.out).mono ?_); rintro e w1 ⟨rfl, hb⟩; replace RQ := Lib.hid (Kd.C_below RQ.out hb); replace HB := Lib.hid (below_then' HB.out hb); clear hb; have hcx := HC2.out _ _ RQ.out))
  go_ret
  exact ⟨rfl, HB.out⟩
set_option maxRecDepth 20000 in
set_option maxHeartbeats 2000000 in
theorem ebound_yes (a : Option Addr) (cap : Nat) (l : List Int) (r x : Int) (s : Nat) (w : World)
    (R0 : Hid (Kd.C (Kd.int .u16) w a l.length l)) (hle : l.length ≤ cap) (hs : l.length ≤ 80) {q : List Int} {g2 : World → Nat → Prop} {K : Nat} {P st low X i im F G E : Int} {N m p : Nat}
    (HS : Hid (∀ (A : Option Addr) (c : Nat) (w : World), Kd.C (Kd.int .u16) w A l.length l → l.length ≤ c → Calls Try.prog 14 #[.slice A l.length c, .int .u8 r] w fun e w' => ∃ A1 c1, e = .returned (.tuple #[.slice A1 q.length c1, .int .i64 (K : Int)]) ∧ Kd.C (Kd.int .i64) w' A1 q.length q ∧ q.length ≤ c1 ∧ Below w.heap.size w w'))
    (HN : Hid (∀ (A : Option Addr) (c : Nat) (w : World), Kd.C (Kd.int .i64) w A q.length q → q.length ≤ c → Calls Try.prog 10 #[.slice A q.length c] w fun e w' => ∃ g, e = .returned (.tuple #[.pointer (some ⟨g, 0, none⟩), .int .i64 0]) ∧ g2 w' g ∧ Below w.heap.size w w'))
    (HG2 : Hid (∀ (g : Nat) (w w' : World), g2 w g → Below w.heap.size w w' → g2 w' g))
    (HT : Hid (∀ (g : Nat) (w : World), g2 w g → Calls Try.prog 15 #[.pointer (some ⟨g, 0, none⟩), .int .i64 st, .int .u8 (s : Int)] w fun e w' => e = .returned (.tuple #[.int .i64 (p : Int), .int .i64 (N : Int), .int .u32 low, .bool true]) ∧ Below w.heap.size w w'))
    (HM : Hid (∀ (A : Option Addr) (c : Nat) (w : World), Kd.C (Kd.int .i64) w A q.length q → q.length ≤ c → Calls Try.prog 17 #[.slice A q.length c] w fun e w' => e = .returned (.int .i64 (m : Int)) ∧ Drawn0 w w'))
    (hsq : s < q.length) (hX : q.getD s 0 = X) (hs1 : s ≤ 255) (hK : K ≤ 12) (hn : (2 : Int) ^ K = P) (hn0 : 2 ≤ P) (hn1 : P ≤ 4096) (hst : x % P = st) (hx0 : 0 ≤ x) (hx1 : x ≤ 65535) (hs0 : 0 ≤ st) (hs2 : st < P)
    (hN : N ≤ K) (hp : (p : Int) < P) (hm : m ≤ 256) (hm1 : 1 ≤ m) (h0 : X ≤ i) (h1 : i < 2 * X) (hX0 : 0 < X) (hX1 : X ≤ 4096) (hdv : (P + st) / p2 N = i) (him : i * p2 N = im) (hsum : im + low = P + st) (hl0 : 0 ≤ low) (hl1 : low < 4096) (him0 : 0 ≤ im)
    (hF : (P + (p : Int)) * X = F) (hG : i * (P + (m : Int) - 1) = G) (hE : i * P = E) (hFG : F ≤ G) (hEF : E ≤ F) (hE0 : 0 ≤ E) (hG1 : G ≤ 1000000000) :
    Calls Try.prog 5 #[.slice a l.length cap, .int .u8 r, .int .u16 x, .int .u8 (s : Int)] w fun e w' => e = .returned (.bool true) ∧ Below w.heap.size w w' := by
  have HB := Lib.hid (Below.refl w.heap.size w)
  have wx : IntKind.i64.wrap x = x := IntWalk.i64_in _ (by omega)
  have i0 : (0 : Int) ≤ (s : Int) := by omega
  have i1 : (s : Int) < (q.length : Int) := by omega
  have HC := Lib.hid (show ∀ W A, Kd.C (Kd.int .i64) W A q.length q → ∃ ad, A = some ad ∧ W.cell? (ad.add s) = some (.int .i64 X) from fun W A h => by rw [← hX]; exact cell_at h s hsq)
  have HC2 := Lib.hid (show ∀ W ad, Kd.C (Kd.int .i64) W (some ad) q.length q → W.cell? (ad.add s) = some (.int .i64 X) from fun W ad h => by rw [← hX]; exact cell_on h s hsq)
  have z1 : decide ((N : Int) < 0) = false := decide_eq_false (by omega)
  have z2 : decide ((K : Int) < (N : Int)) = false := decide_eq_false (by omega)
  have y1 : IntKind.i64.wrap im = im := IntWalk.i64_in _ (by omega)
  have y2 : IntKind.i64.wrap F = F := IntWalk.i64_in _ (by omega)
  have y3 : IntKind.i64.wrap G = G := IntWalk.i64_in _ (by omega)
  have y4 : IntKind.i64.wrap E = E := IntWalk.i64_in _ (by omega)
  have y5 : IntKind.i64.wrap low = low := IntWalk.i64_in _ (by omega)
  have y6 : IntKind.i64.wrap (im + low) = P + st := by rw [IntWalk.i64_in _ (by omega)]; exact hsum
  have y7 : IntKind.i64.wrap (P + st) = P + st := IntWalk.i64_in _ (by omega)
  have y8 : IntKind.i64.wrap (2 * X) = 2 * X := IntWalk.i64_in _ (by omega)
  have y9 : IntKind.i64.wrap (P + (p : Int)) = P + (p : Int) := IntWalk.i64_in _ (by omega)
  have ya : IntKind.i64.wrap (P + (m : Int)) = P + (m : Int) := IntWalk.i64_in _ (by omega)
  have yb : IntKind.i64.wrap (P + (m : Int) - 1) = P + (m : Int) - 1 := IntWalk.i64_in _ (by omega)
  have x1 : decide (X ≤ i) = true := decide_eq_true h0
  have x2 : decide (i < 2 * X) = true := decide_eq_true h1
  have x3 : decide (F ≤ G) = true := decide_eq_true hFG
  have x4 : decide (E ≤ F) = true := decide_eq_true hEF
  have e1 : (2 : Int) ^ N = p2 N := pow_p2 N
  clear hX hsq
  generalize p2 N = M at *
  go_enter Try.func5, Try.ntmps5
  go_wp2_with (first
    | (go_at_call 8; (with_reducible refine (awake12 _).mono ?_); rintro e w1 ⟨rfl, hb⟩; replace R0 := Lib.hid (Kd.C_below R0.out hb); replace HB := Lib.hid (below_then' HB.out hb); clear hb)
    | (go_at_call 14; (with_reducible refine (HS.out _ _ _ R0.out hle).mono ?_); rintro e w1 ⟨A1, c1, rfl, hr, hc1, hb⟩; obtain ⟨ad, rfl, _⟩ := HC.out _ _ hr; have RQ := Lib.hid hr; replace HB := Lib.hid (below_then' HB.out hb); clear hb hr)
    | (go_at_call 10; (with_reducible refine (HN.out _ _ _ RQ.out hc1).mono ?_); rintro e w1 ⟨g, rfl, hT, hb⟩; have HG := Lib.hid hT; replace RQ := Lib.hid (Kd.C_below RQ.out hb); replace HB := Lib.hid (below_then' HB.out hb); clear hb hT)
    | (go_at_call 15; (with_reducible refine (HT.out _ _ HG.out).mono ?_); rintro e w1 ⟨rfl, hb⟩; replace RQ := Lib.hid (Kd.C_below RQ.out hb); replace HB := Lib.hid (below_then' HB.out hb); clear hb)
    | (go_at_call 17; (with_reducible refine (HM.out _ _ _ RQ.out hc1).mono ?_); rintro e w9 ⟨rfl, nd, rfl⟩; replace RQ := Lib.hid (Kd.C_drewN RQ.out nd); replace HB := Lib.hid (pw_below_drewN HB.out nd); have hcx := HC2.out _ _ RQ.out))
  go_ret
  exact ⟨rfl, HB.out⟩
set_option maxRecDepth 20000 in
set_option maxHeartbeats 2000000 in
theorem ebound_walk (a : Option Addr) (len cap : Nat) (zs : List Int) (r x s : Int) (w : World) (h : IsRow .u16 w a len cap zs) (y : len * 2 ≤ 140737488351232) (h1 : (Lit.int .u8 r).wf = true) (h2 : (Lit.int .u16 x).wf = true) (h3 : (Lit.int .u8 s).wf = true) :
    Calls Try.prog 5 #[.slice a len cap, .int .u8 r, .int .u16 x, .int .u8 s] w fun e w' => e = .returned (.bool true) ∧ Below w.heap.size w w' := by
  obtain ⟨l, rfl, hr, hle, hwf⟩ := h.reads (by omega)
  have h1 := bounds_u8 h1
  have h2 := bounds_u16 h2
  have h3 := bounds_u8 h3
  have R0 := Lib.hid (C_of_row hr)
  by_cases hs : l.length ≤ 80
  · obtain ⟨q, k, sq, hS⟩ := some_at l r hwf h1.1 h1.2
    have HS := Lib.hid hS
    have hN := sq.N
    obtain ⟨L, hL⟩ := ordL_ex hN.nq
    obtain ⟨s, rfl⟩ : ∃ n : Nat, s = (n : Int) := ⟨s.toNat, by omega⟩
    have hnn := hN.nq.nn s
    have HN := Lib.hid (enew_at hN hL)
    have HG2 := Lib.hid (fun (g : Nat) (w w' : World) (h : IsTbl w g (k : Int) (symL L)) (hb : Below w.heap.size w w') => h.below hb)
    have hlen := sym_len hN hL
    have hp := p2_12 hN.r1
    have hp0 := p2_mono hN.r0
    rw [p2_1] at hp0
    obtain ⟨st0, st1⟩ := st_at (x := x) (P := p2 k) (by omega) h2.1
    have hsq : s < q.length := by have := hN.nq.len; omega
    have hn : (2 : Int) ^ k = p2 k := pow_p2 k
    by_cases hw : q.getD s 0 = 0
    · exact ebound_no a cap l r x s w R0 hle hs HS HN HG2 (Lib.hid (estepN_at hN hL s (by omega) (by omega) (by omega) (.inr (.inr hw)))) hsq hw (by omega) hN.r1 hn (by omega) (by omega) rfl h2.1 h2.2
    · obtain ⟨N, i, hway⟩ := way_ex hN s (by omega) (x % p2 k) st0 st1
      have hkey := hway.key (show s < 256 by omega)
      obtain ⟨t0, t1⟩ := hL.s.there hN.nq hkey
      have hpN := p2_pos N
      have hpN1 := p2_12 (show N ≤ 12 by have := hway.Nr; have := hN.r1; omega)
      have m0 := Int.emod_nonneg (p2 k + x % p2 k) (show p2 N ≠ 0 by omega)
      have m1 := Int.emod_lt_of_pos (p2 k + x % p2 k) (show 0 < p2 N by omega)
      have hdv := Int.mul_ediv_add_emod (p2 k + x % p2 k) (p2 N)
      rw [hway.d, Int.mul_comm] at hdv
      have hX1 := hN.nq.bd s
      obtain ⟨n1, n2⟩ := place_near hN.nq s (by omega) i hway.i0 hway.i1
      rw [hN.p2] at n1 n2
      have hh := haveTo_le q 256
      have hi0 := hway.i0
      have hi1 := hway.i1
      have hX := hN.nq.nn s
      have hm1 : 1 ≤ haveTo q 256 := by
        rcases Nat.eq_zero_or_pos (haveTo q 256) with h | h
        · rw [h, show ((0 : Nat) : Int) = 0 from rfl, Int.zero_mul] at n2
          omega
        · exact h
      have hA : ((haveTo q 256 : Int) - 1) * q.getD s 0 ≤ ((haveTo q 256 : Int) - 1) * i := Int.mul_le_mul_of_nonneg_left hi0 (by omega)
      rw [Int.sub_mul, Int.sub_mul, Int.one_mul, Int.one_mul] at hA
      have hB : i * (p2 k + (haveTo q 256 : Int) - 1) = i * p2 k + (haveTo q 256 : Int) * i - i := by
        rw [Int.mul_sub, Int.mul_add, Int.mul_one, Int.mul_comm i (haveTo q 256 : Int)]
      have hE0 : 0 ≤ i * p2 k := Int.mul_nonneg (by omega) (by omega)
      have hG1 : i * (p2 k + (haveTo q 256 : Int) - 1) ≤ 8192 * 5000 := by
        refine Int.le_trans (Int.mul_le_mul_of_nonneg_left (show p2 k + (haveTo q 256 : Int) - 1 ≤ 5000 by omega) (by omega)) (Int.mul_le_mul_of_nonneg_right (by omega) (by omega))
      have him0 : 0 ≤ i * p2 N := Int.mul_nonneg (by omega) (by omega)
      have hM := Lib.hid (show ∀ (A : Option Addr) (c : Nat) (w : World), Kd.C (Kd.int .i64) w A q.length q → q.length ≤ c → Calls Try.prog 17 #[.slice A q.length c] w fun e w' => e = .returned (.int .i64 (haveTo q 256 : Int)) ∧ Drawn0 w w' from fun A c w hr hc => by
        obtain ⟨k5, hk5⟩ := (emany_ev q hN.nq.len).rounds
        exact puncheonref12_Many.calls k5 A c q _ w hr hc hk5)
      exact ebound_yes a cap l r x s w R0 hle hs HS HN HG2 (Lib.hid (estep_at hN hL s (by omega) (by omega) st0 st1 hway)) hM hsq rfl (by omega) hN.r1 hn (by omega) (by omega) rfl h2.1 h2.2 st0 st1 hway.Nr (by omega) hh hm1 hi0 hi1 (by omega) hX1 hway.d rfl hdv m0 (by omega) him0 rfl rfl rfl (by omega) n1 hE0 (by omega)
  · have HB := Lib.hid (Below.refl w.heap.size w)
    clear h hr hwf
    go_enter Try.func5, Try.ntmps5
    go_wp2_with (go_at_call 8; (with_reducible refine (awake12 _).mono ?_); rintro e w1 ⟨rfl, hb⟩; replace HB := Lib.hid (below_then' HB.out hb); clear hb)
    go_ret
    exact ⟨rfl, HB.out⟩
end Go.Proofs.Ytjgmilkgklellaa
