/- The program's InverseMod and the reference's answer alike at every two integers.
No condition beyond the given statement. The printed functions are tied to plain arithmetic one by one; the law follows at the end. -/
import Derived.Test.YtndclhdlkhdlmaaPFnExactInverseModx1
import Derived.Test.YtndclhdlkhdlmaaM3
set_option linter.unusedVariables false
set_option linter.unusedSimpArgs false
namespace Go.Proofs.Ytndclhdlkhdlmaa.Pure
open Go.RowKit Go.Proofs.Ytndclhdlkhdlmaa.PFnExactInverseMod Go.Proofs.YtndclhdlkhdlmaaW.PrintWords Go.Proofs.YtndclhdlkhdlmaaW.PrintLast Go.Proofs.YtndclhdlkhdlmaaW.PrintMore Go.Proofs.LG

theorem spec_l6In_eq (a b c : Int) : spec_l6In.f a b c = some (decide (b ≤ a ∧ a ≤ c)) := by
  unfold spec_l6In.f
  by_cases h : a ≥ b
  · rw [if_pos h]; congr 1; rw [decide_eq_decide]; omega
  · rw [if_neg h]; congr 1; symm; rw [decide_eq_false_iff_not]; omega
theorem spec_l1Number_eq (a : Int) : spec_l1Number.f a = some (numB a) := by
  unfold spec_l1Number.f; rw [spec_l6In_eq]; rfl
theorem impl_isNumber_eq (a : Int) : impl_isNumber.f a = some (numB a) := by
  unfold impl_isNumber.f numB
  by_cases h : a ≥ -5000
  · rw [if_pos h]; congr 1; rw [decide_eq_decide]; omega
  · rw [if_neg h]; congr 1; symm; rw [decide_eq_false_iff_not]; omega
theorem spec_l1Mod_eq {n m : Int} (h0 : 0 < m) (h1 : m ≤ 1000000000) : spec_l1Mod.f n m = some (n % m) := by
  unfold spec_l1Mod.f; rw [if_neg (by omega), rest_form h0 h1]
theorem impl_rest_eq {n m : Int} (h0 : 0 < m) (h1 : m ≤ 1000000000) : impl_rest.f n m = some (n % m) := by
  unfold impl_rest.f; rw [if_neg (by omega), rest_form h0 h1]
theorem spec_InverseMod_l0 {n m : Int} (hm : 0 < m) (hm' : m ≤ 5000) : ∀ (d : Nat) (x : Int), 0 ≤ x → x + d = m → Ev (fun k => spec_InverseMod.l0 k n m x) (two (srch (fun x => decide (n % m * x % m = 1)) d x)) := by
  intro d
  induction d with
  | zero =>
    intro x h0 hd
    refine Ev.step (f := fun _ => some (0, false)) (fun k => ?_) (Ev.now _)
    rw [spec_InverseMod.l0, if_neg (by omega)]
  | succ d ih =>
    intro x h0 hd
    have hr := emod_bd n hm
    have hb := mul_bd hr.1 (show n % m ≤ 5000 by omega) h0 (show x ≤ 5000 by omega)
    rw [srch]
    by_cases h : n % m * x % m = 1
    · rw [if_pos (decide_eq_true h)]
      refine Ev.step (f := fun _ => some (x, true)) (fun k => ?_) (Ev.now _)
      rw [spec_InverseMod.l0, if_pos (by omega), spec_l1Mod_eq hm (by omega), Option.bind_some, if_neg (by omega), w64 (by omega) (by omega), tm hb.1, if_pos h]
    · rw [if_neg (by simpa using h)]
      refine Ev.step (fun k => ?_) (ih (x + 1) (by omega) (by omega))
      rw [spec_InverseMod.l0, if_pos (by omega), spec_l1Mod_eq hm (by omega), Option.bind_some, if_neg (by omega), w64 (by omega) (by omega), tm hb.1, if_neg h, w64 (by omega) (by omega)]
theorem spec_InverseMod_ev (n m : Int) : Ev (fun k => spec_InverseMod.f k n m) (invOf n m) := by
  unfold spec_InverseMod.f
  simp only [spec_l1Number_eq, spec_l6In_eq, Option.bind_some]
  by_cases h : numB n = true
  · simp only [if_pos h]
    by_cases hm : 2 ≤ m ∧ m ≤ 5000
    · rw [decide_eq_true hm]
      refine Ev.step (f := fun k => spec_InverseMod.l0 k n m 1) (fun k => by rw [spec_InverseMod.j0, if_neg (by simp)]) ?_
      unfold invOf; rw [if_pos ⟨h, hm⟩]
      exact spec_InverseMod_l0 (by omega) hm.2 _ 1 (by omega) (by omega)
    · rw [decide_eq_false hm]
      refine Ev.step (f := fun _ => some (0, false)) (fun k => by rw [spec_InverseMod.j0, if_pos (by simp)]) ?_
      unfold invOf; rw [if_neg (fun h => hm h.2)]
      exact Ev.now _
  · simp only [if_neg h]
    refine Ev.step (f := fun _ => some (0, false)) (fun k => by rw [spec_InverseMod.j0, if_pos (by simp)]) ?_
    unfold invOf; rw [if_neg (fun h' => h h'.1)]
    exact Ev.now _
theorem impl_InverseMod_l0 {n m : Int} (hm : 0 < m) (hm' : m ≤ 5000) : ∀ (d : Nat) (x : Int), 0 ≤ x → x + d = m → Ev (fun k => impl_InverseMod.l0 k n m x) (two (srch (fun x => decide (n % m * x % m = 1)) d x)) := by
  intro d
  induction d with
  | zero =>
    intro x h0 hd
    refine Ev.step (f := fun _ => some (0, false)) (fun k => ?_) (Ev.now _)
    rw [impl_InverseMod.l0, if_neg (by omega)]
  | succ d ih =>
    intro x h0 hd
    have hr := emod_bd n hm
    have hb := mul_bd hr.1 (show n % m ≤ 5000 by omega) h0 (show x ≤ 5000 by omega)
    rw [srch]
    by_cases h : n % m * x % m = 1
    · rw [if_pos (decide_eq_true h)]
      refine Ev.step (f := fun _ => some (x, true)) (fun k => ?_) (Ev.now _)
      rw [impl_InverseMod.l0, if_pos (by omega), impl_rest_eq hm (by omega), Option.bind_some, if_neg (by omega), w64 (by omega) (by omega), tm hb.1, if_pos h]
    · rw [if_neg (by simpa using h)]
      refine Ev.step (fun k => ?_) (ih (x + 1) (by omega) (by omega))
      rw [impl_InverseMod.l0, if_pos (by omega), impl_rest_eq hm (by omega), Option.bind_some, if_neg (by omega), w64 (by omega) (by omega), tm hb.1, if_neg h, w64 (by omega) (by omega)]
theorem impl_InverseMod_ev (n m : Int) : Ev (fun k => impl_InverseMod.f k n m) (invOf n m) := by
  unfold impl_InverseMod.f
  simp only [impl_isNumber_eq, Option.bind_some]
  by_cases h : numB n = true
  · simp only [if_pos h]
    by_cases h2 : m < 2
    · simp only [if_pos h2]
      refine Ev.step (f := fun _ => some (0, false)) (fun k => by rw [impl_InverseMod.j0, if_pos (by simp)]) ?_
      unfold invOf; rw [if_neg (fun h => by omega)]
      exact Ev.now _
    · simp only [if_neg h2]
      by_cases h5 : m > 5000
      · rw [decide_eq_true h5]
        refine Ev.step (f := fun _ => some (0, false)) (fun k => by rw [impl_InverseMod.j0, if_pos (by simp)]) ?_
        unfold invOf; rw [if_neg (fun h => by omega)]
        exact Ev.now _
      · rw [decide_eq_false h5]
        refine Ev.step (f := fun k => impl_InverseMod.l0 k n m 1) (fun k => by rw [impl_InverseMod.j0, if_neg (by simp)]) ?_
        unfold invOf; rw [if_pos ⟨h, by omega, by omega⟩]
        exact impl_InverseMod_l0 (by omega) (by omega) _ 1 (by omega) (by omega)
  · simp only [if_neg h]
    refine Ev.step (f := fun _ => some (0, false)) (fun k => by rw [impl_InverseMod.j0, if_pos (by simp)]) ?_
    unfold invOf; rw [if_neg (fun h' => h h'.1)]
    exact Ev.now _
theorem FnExactInverseMod : laws_FnExactInverseMod.Pure := by
  intro n m _ _
  refine Ev.rounds ?_
  unfold laws_FnExactInverseMod.f
  refine Ev.bind (spec_InverseMod_ev n m) (Ev.bind (impl_InverseMod_ev n m) ?_)
  rw [if_pos rfl, bne_self_eq_false, if_neg (by simp)]; exact Ev.now _

end Go.Proofs.Ytndclhdlkhdlmaa.Pure
