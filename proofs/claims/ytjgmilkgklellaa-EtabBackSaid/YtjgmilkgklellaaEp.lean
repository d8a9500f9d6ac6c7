/- The layer etab: Log, Count and Step of a table. -/
import Derived.Test.YtjgmilkgklellaaEs
import Derived.Test.YtjgmilkgklellaaDt
import Derived.Deep.QuietTactic
import Derived.BigQuiet
import Derived.Laws.BitsLemmas
namespace Go.Proofs.Ytjgmilkgklellaa
open Go.RowKit Go.Maps Go.ChangeShapes Go.Proofs.YtjgmilkgklellaaW.PrintWords Go.Proofs.YtjgmilkgklellaaW.PrintLast Go.Proofs.YtjgmilkgklellaaW.PrintMore PPr
attribute [local go_sem] max2_int min2_int max_two min_two max_three min_three max_four min_four
set_option linter.unusedSimpArgs false
set_option linter.unusedVariables false
set_option maxRecDepth 20000 in
set_option maxHeartbeats 1600000 in
theorem estep_ok (g : Nat) (R : Nat) (l : List Int) (x s : Int) (w : World) (r : Int) (hr : r = (R : Int)) (h : IsTbl w g r l) (hR : R ≤ 12) (hl : l.length ≤ 4096) (hx0 : 0 ≤ x) (hx1 : x < p2 R) (hs0 : 0 ≤ s) (hs1 : s ≤ 255) {n cnt j : Nat} (hcnt : (plcTo l s l.length).length = cnt) (hc : 0 < cnt)
    (hw : etab_size_without.f (p2 R + x) (cnt : Int) = some (n : Int)) (hn : n ≤ 12) (hj : (p2 R + x) / p2 n = (cnt : Int) + (j : Int)) (hjc : j < cnt) :
    Calls Try.prog 15 #[.pointer (some ⟨g, 0, none⟩), .int .i64 x, .int .u8 s] w fun e w' => e = .returned (.tuple #[.int .i64 ((plcTo l s l.length).getD j 0), .int .i64 (n : Int), .int .u32 ((p2 R + x) % p2 n), .bool true]) ∧ Below w.heap.size w w' := by
  obtain ⟨B, base, m, D, h1, hO, hm, hT⟩ := h
  obtain ⟨hc0, hc1⟩ := tbl_cells h1
  have HO := Lib.hid hO
  have HT := Lib.hid hT
  have HCN := Lib.hid hcnt
  have HW := Lib.hid (fun w => etab_size_without.calls (p2 R + x) (cnt : Int) (n : Int) w hw)
  have hp := p2_12 hR
  have hp0 := p2_pos R
  have hmf : ∀ (fn : Fn) (first cap : Array Value) (w : World), (Instr.makeFunc fn first cap).run Try.prog w = .ok (.func fn first cap) w := fun _ _ _ _ => rfl
  have hcn := plcTo_len l s l.length
  have hmx : m < maxLen := by unfold maxLen; omega
  rw [hcnt] at hcn
  have e2 : wrap64 (p2 R + x) = p2 R + x := by unfold wrap64; omega
  have d1 : decide (x < 0) = false := by rw [decide_eq_false_iff_not]; omega
  have d2 : decide (p2 R ≤ x) = false := by rw [decide_eq_false_iff_not]; omega
  have hz : ((cnt : Int) == 0) = false := by rw [beq_eq_false_iff_ne]; omega
  have hpn := p2_12 hn
  have hpn0 := p2_pos n
  have i0 : (0 : Int) ≤ (j : Int) := by omega
  have i1 : (j : Int) < (cnt : Int) := by omega
  have w1 : IntKind.i64.wrap ((cnt : Int) + (j : Int) - (cnt : Int)) = (j : Int) := by rw [IntWalk.i64_in _ (by omega)]; omega
  have w2 : IntKind.i64.wrap (j : Int) = (j : Int) := IntWalk.i64_in _ (by omega)
  have w3 : IntKind.i64.wrap (p2 n - 1) = p2 n - 1 := IntWalk.i64_in _ (by omega)
  have n0 : 0 ≤ (p2 R + x) % p2 n := Int.emod_nonneg _ (by omega)
  have n1 : (p2 R + x) % p2 n < p2 n := Int.emod_lt_of_pos _ (by omega)
  have w4 : IntKind.u32.wrap ((p2 R + x) % p2 n) = (p2 R + x) % p2 n := by
    show ((p2 R + x) % p2 n) % 4294967296 = _
    omega
  have wa : bits .and .i64 (p2 R + x) (p2 n - 1) = (p2 R + x) % p2 n := by
    have := bits_mask .i64 62 (by decide) (fun z h0 h1 => IntWalk.i64_in _ (by omega)) n (by omega) (p2 R + x) (by omega) (by omega)
    rwa [pow_p2] at this
  clear n0 n1
  have hr0 : 0 ≤ r := by omega
  have hr1 : r ≤ 12 := by omega
  have e1 : (2 : Int) ^ r.toNat = p2 R := by rw [hr, Int.toNat_natCast, pow_p2]
  clear hr
  have e3 : (p2 R + x) / p2 n = (cnt : Int) + (j : Int) := hj
  have e5 : (2 : Int) ^ n = p2 n := pow_p2 n
  have HJC := Lib.hid hjc
  clear h1 hcnt hw hO hT hj hjc
  have W1 := Lib.hid w1
  have W2 := Lib.hid w2
  have W3 := Lib.hid w3
  have W4 := Lib.hid w4
  have WA := Lib.hid wa
  have E3 := Lib.hid e3
  have E5 := Lib.hid e5
  have I0 := Lib.hid (And.intro i0 i1)
  clear w1 w2 w3 w4 wa e3 e5 i0 i1
  generalize p2 R = P at *
  generalize p2 n = N at *
  obtain ⟨pl, hpl⟩ : ∃ pl, plcTo l s l.length = pl := ⟨_, rfl⟩
  rw [hpl] at HCN ⊢
  have HPL := Lib.hid hpl
  clear hpl
  go_enter Try.func15, Try.ntmps15
  go_wp2_with (at_lookup; refine wpList_lookup_groups _ rfl _ _ 54 rfl 5 22 3 .i64 law_u8 Try.underlying54 (zero_ints _) base B m D rfl HO.out hmx _ _ rfl (key_u8 s hs0 hs1) ?_; intro v zs hat hoi hzl hback; obtain rfl := (tblD_zs HT.out hs0 hs1 hat hoi).trans HPL.out; obtain ⟨A1, c1, rfl, _, hr⟩ := own_reads' hoi.1; rw [HCN.out] at hr ⊢; have RD := Lib.hid hr; clear hat hoi hzl hback hr)
  refine (HW.out _).mono ?_
  rintro e w1 ⟨rfl, hb⟩
  replace RD := Lib.hid (RD.out.below hb)
  have HB := Lib.hid hb
  clear hb
  go_wp2
  obtain ⟨ad, hA, hcell⟩ := reads_cell RD.out j HJC.out
  subst hA
  clear e1 e2
  obtain ⟨i0, i1⟩ := I0.out
  have w1 := W1.out
  have w2 := W2.out
  have w3 := W3.out
  have w4 := W4.out
  have wa := WA.out
  have e3 := E3.out
  have e5 := E5.out
  go_quiet (fail)
  go_wp2
  refine bodyPost_ret (v := .tuple #[.int .i64 (zs.getD j 0), .int .i64 (n : Int), .int .u32 ((P + x) % N), .bool true]) (by simp [results, Try.results15, go_sem]) rfl ⟨rfl, ?_⟩
  exact pw_below_drewN HB.out _
set_option maxRecDepth 20000 in
set_option maxHeartbeats 1600000 in
theorem estep_no (g : Nat) (R : Nat) (l : List Int) (x s : Int) (w : World) (r : Int) (hr : r = (R : Int)) (h : IsTbl w g r l) (hR : R ≤ 12) (hl : l.length ≤ 4096) (hs0 : 0 ≤ s) (hs1 : s ≤ 255) (hb0 : -9223372036854775808 ≤ x) (hb1 : x ≤ 9223372036854775807) {cnt : Nat} (hcnt : (plcTo l s l.length).length = cnt) (hno : x < 0 ∨ p2 R ≤ x ∨ cnt = 0) :
    Calls Try.prog 15 #[.pointer (some ⟨g, 0, none⟩), .int .i64 x, .int .u8 s] w fun e w' => e = .returned (.tuple #[.int .i64 0, .int .i64 0, .int .u32 0, .bool false]) ∧ Below w.heap.size w w' := by
  obtain ⟨B, base, m, D, h1, hO, hm, hT⟩ := h
  obtain ⟨hc0, hc1⟩ := tbl_cells h1
  have HO := Lib.hid hO
  have HT := Lib.hid hT
  have HCN := Lib.hid hcnt
  have hp := p2_12 hR
  have hp0 := p2_pos R
  have hcn := plcTo_len l s l.length
  have hmx : m < maxLen := by unfold maxLen; omega
  rw [hcnt] at hcn
  obtain ⟨pl, hpl⟩ : ∃ pl, plcTo l s l.length = pl := ⟨_, rfl⟩
  rw [hpl] at HCN
  have HPL := Lib.hid hpl
  clear hpl
  have hr0 : 0 ≤ r := by omega
  have hr1 : r ≤ 12 := by omega
  have HE := Lib.hid (show (2 : Int) ^ r.toNat = p2 R by rw [hr, Int.toNat_natCast, pow_p2])
  clear hr h1 hcnt hO hT
  by_cases c1 : x < 0
  · have d1 : decide (x < 0) = true := decide_eq_true c1
    clear hno
    have e1 := HE.out
    generalize p2 R = P at *
    go_enter Try.func15, Try.ntmps15
    go_wp2_with (at_lookup; refine wpList_lookup_groups _ rfl _ _ 54 rfl 5 22 3 .i64 law_u8 Try.underlying54 (zero_ints _) base B m D rfl HO.out hmx _ _ rfl (key_u8 s hs0 hs1) ?_; intro v zs hat hoi hzl hback; obtain rfl := (tblD_zs HT.out hs0 hs1 hat hoi).trans HPL.out; obtain ⟨A1, c1, rfl, _, hr⟩ := own_reads' hoi.1; rw [HCN.out] at hr ⊢; clear hat hoi hzl hback hr)
    exact bodyPost_ret (v := .tuple #[.int .i64 0, .int .i64 0, .int .u32 0, .bool false]) (by simp [results, Try.results15, go_sem]) rfl ⟨rfl, Below.refl _ _⟩
  · have d1 : decide (x < 0) = false := decide_eq_false c1
    by_cases c2 : p2 R ≤ x
    · have d2 : decide (p2 R ≤ x) = true := decide_eq_true c2
      clear hno
      have e1 := HE.out
      generalize p2 R = P at *
      go_enter Try.func15, Try.ntmps15
      go_wp2_with (at_lookup; refine wpList_lookup_groups _ rfl _ _ 54 rfl 5 22 3 .i64 law_u8 Try.underlying54 (zero_ints _) base B m D rfl HO.out hmx _ _ rfl (key_u8 s hs0 hs1) ?_; intro v zs hat hoi hzl hback; obtain rfl := (tblD_zs HT.out hs0 hs1 hat hoi).trans HPL.out; obtain ⟨A1, c1, rfl, _, hr⟩ := own_reads' hoi.1; rw [HCN.out] at hr ⊢; clear hat hoi hzl hback hr)
      exact bodyPost_ret (v := .tuple #[.int .i64 0, .int .i64 0, .int .u32 0, .bool false]) (by simp [results, Try.results15, go_sem]) rfl ⟨rfl, Below.refl _ _⟩
    · have d2 : decide (p2 R ≤ x) = false := decide_eq_false c2
      obtain rfl : cnt = 0 := by omega
      clear hno
      have e1 := HE.out
      generalize p2 R = P at *
      go_enter Try.func15, Try.ntmps15
      go_wp2_with (at_lookup; refine wpList_lookup_groups _ rfl _ _ 54 rfl 5 22 3 .i64 law_u8 Try.underlying54 (zero_ints _) base B m D rfl HO.out hmx _ _ rfl (key_u8 s hs0 hs1) ?_; intro v zs hat hoi hzl hback; obtain rfl := (tblD_zs HT.out hs0 hs1 hat hoi).trans HPL.out; obtain ⟨A1, c1, rfl, _, hr⟩ := own_reads' hoi.1; rw [HCN.out] at hr ⊢; clear hat hoi hzl hback hr)
      exact bodyPost_ret (v := .tuple #[.int .i64 0, .int .i64 0, .int .u32 0, .bool false]) (by simp [results, Try.results15, go_sem]) rfl ⟨rfl, Below.refl _ _⟩
end Go.Proofs.Ytjgmilkgklellaa
