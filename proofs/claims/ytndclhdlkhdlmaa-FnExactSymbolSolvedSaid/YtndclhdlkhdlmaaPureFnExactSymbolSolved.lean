/- The program's SymbolSolved and the reference's answer alike at every five integers.
No condition beyond the given statement. The printed functions are tied to plain arithmetic one by one; the law follows at the end. -/
import Derived.Test.YtndclhdlkhdlmaaPFnExactSymbolSolvedx1
import Derived.Test.YtndclhdlkhdlmaaM3
set_option linter.unusedVariables false
set_option linter.unusedSimpArgs false
namespace Go.Proofs.Ytndclhdlkhdlmaa.Pure
open Go.RowKit Go.Proofs.Ytndclhdlkhdlmaa.PFnExactSymbolSolved Go.Proofs.YtndclhdlkhdlmaaW.PrintWords Go.Proofs.YtndclhdlkhdlmaaW.PrintLast Go.Proofs.YtndclhdlkhdlmaaW.PrintMore Go.Proofs.LG

theorem spec_l6In_eq (a b c : Int) : spec_l6In.f a b c = some (decide (b ≤ a ∧ a ≤ c)) := by
  unfold spec_l6In.f
  by_cases h : a ≥ b
  · rw [if_pos h]; congr 1; rw [decide_eq_decide]; omega
  · rw [if_neg h]; congr 1; symm; rw [decide_eq_false_iff_not]; omega
theorem spec_l1Number_eq (a : Int) : spec_l1Number.f a = some (numB a) := by
  unfold spec_l1Number.f; rw [spec_l6In_eq]; rfl
theorem impl_isNumber_eq (a : Int) : impl_isNumber.f a = some (numB a) := by
  unfold impl_isNumber.f numB
  by_cases h : a ≥ -5000
  · rw [if_pos h]; congr 1; rw [decide_eq_decide]; omega
  · rw [if_neg h]; congr 1; symm; rw [decide_eq_false_iff_not]; omega
theorem spec_l3Ok_eq (a b : Int) : spec_l3Ok.f a b = some (numB a && numB b && decide (a ≠ 0) && decide (b ≠ 0)) := by
  unfold spec_l3Ok.f
  rw [spec_l1Number_eq, spec_l1Number_eq, Option.bind_some, Option.bind_some]
  by_cases ha : numB a = true
  · rw [if_pos ha, ha]
    by_cases hb : numB b = true
    · rw [if_pos hb, hb]
      by_cases h0 : a = 0
      · rw [if_pos h0]; simp [h0]
      · rw [if_neg h0]; congr 1
        simp [h0, bne, BEq.beq]
    · rw [if_neg hb]; simp [hb]
  · rw [if_neg ha]; simp [ha]
theorem impl_bothNumbers_eq (a b : Int) : impl_bothNumbers.f a b = some (numB a && numB b && decide (a ≠ 0) && decide (b ≠ 0)) := by
  unfold impl_bothNumbers.f
  by_cases h0 : a = 0
  · rw [if_pos h0]; simp [h0]
  · rw [if_neg h0]
    by_cases h1 : b = 0
    · rw [if_pos h1]; simp [h1]
    · rw [if_neg h1, impl_isNumber_eq, impl_isNumber_eq, Option.bind_some, Option.bind_some]
      by_cases ha : numB a = true
      · rw [if_pos ha]; simp [ha, h0, h1]
      · rw [if_neg ha]; simp [ha]
theorem FnExactSymbolSolved : laws_FnExactSymbolSolved.Pure := by
  intro a b x y z wa wb wx wy wz
  have key : impl_SymbolSolved.f a b x y z = spec_SymbolSolved.f a b x y z := by
    unfold impl_SymbolSolved.f spec_SymbolSolved.f
    simp only [spec_l3Ok_eq, impl_bothNumbers_eq, spec_l1Number_eq, impl_isNumber_eq]
  unfold laws_FnExactSymbolSolved.f
  rw [key]
  have : ∃ v, spec_SymbolSolved.f a b x y z = some v := by
    unfold spec_SymbolSolved.f
    simp only [spec_l3Ok_eq, spec_l1Number_eq, Option.bind_some]
    (repeat' split) <;> exact ⟨_, rfl⟩
  obtain ⟨v, hv⟩ := this
  rw [hv, Option.bind_some, Option.bind_some, bne_self_eq_false, if_neg (by simp)]

end Go.Proofs.Ytndclhdlkhdlmaa.Pure
