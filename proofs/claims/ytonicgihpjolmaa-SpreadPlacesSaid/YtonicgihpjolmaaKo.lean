/- Keys' order, as a Bool function. -/
import Derived.Test.YtonicgihpjolmaaFc
namespace Go.Proofs.Ytonicgihpjolmaa
open Go.RowKit Go.Proofs.YtonicgihpjolmaaW.PrintWords Go.Proofs.YtonicgihpjolmaaW.PrintLast Go.Proofs.YtonicgihpjolmaaW.PrintMore PPr
set_option linter.unusedSimpArgs false
set_option linter.unusedVariables false
/-- is it a fraction from 1 to 2 -/
def rightK (a0 a1 a2 : Int) : Bool := decide (a1 ≥ 1 ∧ a1 ≤ 4096 ∧ a0 ≥ a1 ∧ a0 < wrap64 (2 * a1) ∧ a2 ≥ 0 ∧ a2 < 256)
theorem right_some (a0 a1 a2 : Int) : frac_Right.f a0 a1 a2 = some (rightK a0 a1 a2) := by
  unfold frac_Right.f rightK
  repeat' split
  all_goals (congr 1; rw [eq_comm])
  all_goals first | (rw [Bool.eq_iff_iff]; simp only [decide_eq_true_iff]; omega) | (rw [decide_eq_false_iff_not]; omega)
def sgnK (a b : Int) : Int := if a < b then -1 else if a > b then 1 else 0
theorem compare_some (a b : Int) : cmp_Compare_int.f a b = some (sgnK a b) := by
  unfold cmp_Compare_int.f cmp_isNaN_int.f sgnK
  simp only [Option.bind_some, bne_self_eq_false, Bool.false_eq_true, if_false]
  repeat' split
  all_goals rfl
def cmpZ (a b : S46) : Int :=
  if rightK a.f0 a.f1 a.f2 = true then if rightK b.f0 b.f1 b.f2 = true then
    if sgnK (wrap64 (a.f0 * b.f1)) (wrap64 (b.f0 * a.f1)) = 0 then sgnK a.f2 b.f2 else sgnK (wrap64 (a.f0 * b.f1)) (wrap64 (b.f0 * a.f1))
    else 0 else 0
theorem cmpF_eq (a b : S46) : cmpF a.f0 a.f1 a.f2 b.f0 b.f1 b.f2 = some (cmpZ a b) := by
  unfold cmpF cmpZ frac_Key_byWorth.f frac_Key_bySymbol.f
  rw [right_some, right_some, compare_some, compare_some]
  simp only [Option.bind_some]
  repeat' split
  all_goals rfl
def ltK (a b : S46) : Bool := decide (cmpZ a b < 0)
end Go.Proofs.Ytonicgihpjolmaa
