/- The contract of frac.Cmp: a list of two functions, tried one behind the other. Keys' order, as a Bool function. -/
import Derived.Test.YtjgmilkgklellaaPPrx1
import Derived.Test.YtjgmilkgklellaaPPrx1
import Derived.Test.YtjgmilkgklellaaPPrx1
import Derived.Deep.DeepMust
import Derived.Test.YtjgmilkgklellaaBase
namespace Go.Proofs.Ytjgmilkgklellaa
open Go.RowKit Go.Proofs.YtjgmilkgklellaaW.PrintWords Go.Proofs.YtjgmilkgklellaaW.PrintLast Go.Proofs.YtjgmilkgklellaaW.PrintMore PPr
attribute [local go_sem] max2_int min2_int max_two min_two max_three min_three max_four min_four
set_option linter.unusedSimpArgs false
set_option linter.unusedVariables false
def cmpF (a0 a1 a2 b0 b1 b2 : Int) : Option Int :=
  (frac_Right.f a0 a1 a2).bind fun ra => if ra = true then (frac_Right.f b0 b1 b2).bind fun rb => if rb = true then
    (frac_Key_byWorth.f a0 a1 a2 b0 b1 b2).bind fun c => if c = 0 then (frac_Key_bySymbol.f a0 a1 a2 b0 b1 b2) else some c
    else some 0 else some 0
/-- the two structs lie in two blocks -/
structure Two (w W : World) (a0 a1 a2 b0 b1 b2 : Int) : Prop where
  A : W.heap[w.heap.size]? = some (.cells #[.int .i64 a0, .int .i64 a1, .int .i64 a2] 68 (0, 0))
  B : W.heap[w.heap.size + 1]? = some (.cells #[.int .i64 b0, .int .i64 b1, .int .i64 b2] 68 (0, 0))
  Z : Below w.heap.size w W
theorem Two.below {w W W' : World} {a0 a1 a2 b0 b1 b2 : Int} (h : Two w W a0 a1 a2 b0 b1 b2) (hb : Below W.heap.size W W') : Two w W' a0 a1 a2 b0 b1 b2 :=
  ⟨blk_below h.A hb, blk_below h.B hb, below_step h.Z hb⟩
theorem two_start (w : World) (a0 a1 a2 b0 b1 b2 : Int) : Two w ((w.alloc (.cells #[.int .i64 a0, .int .i64 a1, .int .i64 a2] 68)).alloc (.cells #[.int .i64 b0, .int .i64 b1, .int .i64 b2] 68)) a0 a1 a2 b0 b1 b2 := by
  refine ⟨?_, ?_, ?_⟩
  · have h := blk_alloc (heap_alloc_new w (.cells #[.int .i64 a0, .int .i64 a1, .int .i64 a2] 68)) (.cells #[.int .i64 b0, .int .i64 b1, .int .i64 b2] 68)
    simpa using h
  · have h := heap_alloc_new (w.alloc (.cells #[.int .i64 a0, .int .i64 a1, .int .i64 a2] 68)) (.cells #[.int .i64 b0, .int .i64 b1, .int .i64 b2] 68)
    simpa using h
  · exact below_alloc (below_alloc (Below.refl _ _) _) _
set_option maxHeartbeats 2000000 in
theorem cmp_any (a0 a1 a2 b0 b1 b2 r : Int) (w : World) (h : cmpF a0 a1 a2 b0 b1 b2 = some r) :
    Calls Try.prog 70 #[.agg #[.int .i64 a0, .int .i64 a1, .int .i64 a2], .agg #[.int .i64 b0, .int .i64 b1, .int .i64 b2]] w fun e w' => e = .returned (.int .i64 r) ∧ Below w.heap.size w w' := by
  have hmf : ∀ (fn : Fn) (first cap : Array Value) (w : World), (Instr.makeFunc fn first cap).run Try.prog w = .ok (.func fn first cap) w := fun _ _ _ _ => rfl
  unfold cmpF at h
  obtain ⟨ra, hra, h⟩ := Option.bind_eq_some_iff.1 h
  have HRA := Lib.hid hra
  have T0 := Lib.hid (two_start w a0 a1 a2 b0 b1 b2)
  clear hra
  cases ra with
  | false =>
    rw [if_neg (by simp)] at h
    obtain rfl := Option.some.inj h
    clear h
    go_enter Try.func70, Try.ntmps70
    go_wp2_with (go_at_call 47; go_must ((with_reducible refine (frac_Right.calls a0 a1 a2 false _ HRA.out).mono ?_); rintro e w1 ⟨rfl, hb⟩; have T1 := Lib.hid (T0.out.below hb); clear hb))
    go_ret
    exact ⟨rfl, T1.out.Z⟩
  | true =>
    rw [if_pos rfl] at h
    obtain ⟨rb, hrb, h⟩ := Option.bind_eq_some_iff.1 h
    have HRB := Lib.hid hrb
    clear hrb
    cases rb with
    | false =>
      rw [if_neg (by simp)] at h
      obtain rfl := Option.some.inj h
      clear h
      go_enter Try.func70, Try.ntmps70
      have S1 := Lib.hid trivial
      go_wp2_with (first
        | (clear S1; go_at_call 47; go_must ((with_reducible refine (frac_Right.calls a0 a1 a2 true _ HRA.out).mono ?_); rintro e w1 ⟨rfl, hb⟩; have T1 := Lib.hid (T0.out.below hb); clear hb; have cb0 := blk_cell T1.out.B 0; have cb1 := blk_cell T1.out.B 1; have cb2 := blk_cell T1.out.B 2))
        | (go_at_call 47; go_must ((with_reducible refine (frac_Right.calls b0 b1 b2 false _ HRB.out).mono ?_); rintro e w2 ⟨rfl, hb⟩; have T2 := Lib.hid (T1.out.below hb); clear hb)))
      go_ret
      exact ⟨rfl, T2.out.Z⟩
    | true =>
      rw [if_pos rfl] at h
      obtain ⟨c, hc, h⟩ := Option.bind_eq_some_iff.1 h
      have HC := Lib.hid hc
      have HH := Lib.hid h
      clear hc h
      go_enter Try.func70, Try.ntmps70
      have S1 := Lib.hid trivial
      go_wp2_with (first
        | (clear S1; go_at_call 47; go_must ((with_reducible refine (frac_Right.calls a0 a1 a2 true _ HRA.out).mono ?_); rintro e w1 ⟨rfl, hb⟩; have T1 := Lib.hid (T0.out.below hb); clear hb; have cb0 := blk_cell T1.out.B 0; have cb1 := blk_cell T1.out.B 1; have cb2 := blk_cell T1.out.B 2))
        | (go_at_call 47; go_must ((with_reducible refine (frac_Right.calls b0 b1 b2 true _ HRB.out).mono ?_); rintro e w2 ⟨rfl, hb⟩; have T2 := Lib.hid (T1.out.below hb); clear hb cb0 cb1 cb2)))
      have T3 := Lib.hid (T2.out.below (below_alloc (Below.refl _ _) (.cells #[.func (.func 71) #[] #[], .func (.func 67) #[] #[]] 108)))
      have F3 := heap_alloc_new w2 (.cells #[.func (.func 71) #[] #[], .func (.func 67) #[] #[]] 108)
      generalize w2.alloc (.cells #[.func (.func 71) #[] #[], .func (.func 67) #[] #[]] 108) = w3 at T3 F3 ⊢
      generalize w2.heap.size = g at F3 ⊢
      have FF3 := Lib.hid F3
      clear F3
      go_loopg [18] 2 (fun k q wr => ∃ i : Nat, i ≤ 2 ∧ k = 2 - i ∧ q = .int .i64 i ∧ Hid (Two w wr a0 a1 a2 b0 b1 b2) ∧ Hid (wr.heap[g]? = some (.cells #[.func (.func 71) #[] #[], .func (.func 67) #[] #[]] 108 (0, 0))) ∧ (i = 1 → c = 0) ∧ (i = 2 → r = 0))
      case atStart => exact ⟨0, by omega, by omega, rfl, T3, FF3, by omega, by omega⟩
      case round =>
        obtain ⟨i, hi, hk, rfl, hT, hF, hi1, hi2⟩ := hrel
        clear T0 T1 T2 T3 FF3
        have ca0 := blk_cell hT.out.A 0
        have ca1 := blk_cell hT.out.A 1
        have ca2 := blk_cell hT.out.A 2
        have cb0 := blk_cell hT.out.B 0
        have cb1 := blk_cell hT.out.B 1
        have cb2 := blk_cell hT.out.B 2
        have cf0 := blk_cell hF.out 0
        have cf1 := blk_cell hF.out 1
        have hi3 : i = 0 ∨ i = 1 ∨ i = 2 := by omega
        rcases hi3 with rfl | rfl | rfl
        · go_wp2_with fail
          refine (frac_Key_byWorth.calls a0 a1 a2 b0 b1 b2 c _ HC.out).mono ?_
          rintro e w4 ⟨rfl, hb⟩
          have T4 := Lib.hid (hT.out.below hb)
          have F4 := Lib.hid (blk_below hF.out hb)
          clear hb
          by_cases h0 : c = 0
          · subst h0
            go_wp2
            go_roundg 1
            case measure => omega
            case rel => exact ⟨1, by omega, by omega, rfl, T4, F4, by simp, by omega⟩
          · have h1 : (c != 0) = true := by simpa using h0
            have h2 : c = r := by have := HH.out; rw [if_neg h0] at this; exact Option.some.inj this
            go_wp2
            go_ret
            exact ⟨rfl, T4.out.Z⟩
        · obtain rfl := hi1 rfl
          have hs : frac_Key_bySymbol.f a0 a1 a2 b0 b1 b2 = some r := by have := HH.out; rw [if_pos rfl] at this; exact this
          have HS := Lib.hid hs
          clear hs
          go_wp2_with fail
          refine (frac_Key_bySymbol.calls a0 a1 a2 b0 b1 b2 r _ HS.out).mono ?_
          rintro e w4 ⟨rfl, hb⟩
          have T4 := Lib.hid (hT.out.below hb)
          have F4 := Lib.hid (blk_below hF.out hb)
          clear hb
          by_cases h0 : r = 0
          · subst h0
            go_wp2
            go_roundg 0
            case measure => omega
            case rel => exact ⟨2, by omega, by omega, rfl, T4, F4, by omega, by simp⟩
          · have h1 : (r != 0) = true := by simpa using h0
            go_wp2
            go_ret
            exact ⟨rfl, T4.out.Z⟩
        · obtain rfl := hi2 rfl
          go_wp2
          go_ret
          exact ⟨rfl, hT.out.Z⟩
end Go.Proofs.Ytjgmilkgklellaa
namespace Go.Proofs.Ytjgmilkgklellaa
open Go.RowKit Go.Proofs.YtjgmilkgklellaaW.PrintWords Go.Proofs.YtjgmilkgklellaaW.PrintLast Go.Proofs.YtjgmilkgklellaaW.PrintMore PPr
set_option linter.unusedSimpArgs false
set_option linter.unusedVariables false
/-- is it a fraction from 1 to 2 -/
def rightK (a0 a1 a2 : Int) : Bool := decide (a1 ≥ 1 ∧ a1 ≤ 4096 ∧ a0 ≥ a1 ∧ a0 < wrap64 (2 * a1) ∧ a2 ≥ 0 ∧ a2 < 256)
theorem right_some (a0 a1 a2 : Int) : frac_Right.f a0 a1 a2 = some (rightK a0 a1 a2) := by
  unfold frac_Right.f rightK
  repeat' split
  all_goals (congr 1; rw [eq_comm])
  all_goals first | (rw [Bool.eq_iff_iff]; simp only [decide_eq_true_iff]; omega) | (rw [decide_eq_false_iff_not]; omega)
def sgnK (a b : Int) : Int := if a < b then -1 else if a > b then 1 else 0
theorem compare_some (a b : Int) : cmp_Compare_int.f a b = some (sgnK a b) := by
  unfold cmp_Compare_int.f cmp_isNaN_int.f sgnK
  simp only [Option.bind_some, bne_self_eq_false, Bool.false_eq_true, if_false]
  repeat' split
  all_goals rfl
def cmpZ (a b : S68) : Int :=
  if rightK a.f0 a.f1 a.f2 = true then if rightK b.f0 b.f1 b.f2 = true then
    if sgnK (wrap64 (a.f0 * b.f1)) (wrap64 (b.f0 * a.f1)) = 0 then sgnK a.f2 b.f2 else sgnK (wrap64 (a.f0 * b.f1)) (wrap64 (b.f0 * a.f1))
    else 0 else 0
theorem cmpF_eq (a b : S68) : cmpF a.f0 a.f1 a.f2 b.f0 b.f1 b.f2 = some (cmpZ a b) := by
  unfold cmpF cmpZ frac_Key_byWorth.f frac_Key_bySymbol.f
  rw [right_some, right_some, compare_some, compare_some]
  simp only [Option.bind_some]
  repeat' split
  all_goals rfl
def ltK (a b : S68) : Bool := decide (cmpZ a b < 0)
end Go.Proofs.Ytjgmilkgklellaa
