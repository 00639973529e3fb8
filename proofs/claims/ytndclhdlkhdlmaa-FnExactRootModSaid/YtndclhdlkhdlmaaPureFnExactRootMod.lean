/- The program's RootMod and the reference's answer alike at every two integers.
No condition beyond the given statement. The printed functions are tied to plain arithmetic one by one; the law follows at the end. -/
import Derived.Test.YtndclhdlkhdlmaaPFnExactRootModx1
import Derived.Test.YtndclhdlkhdlmaaM3
set_option linter.unusedVariables false
set_option linter.unusedSimpArgs false
namespace Go.Proofs.Ytndclhdlkhdlmaa.Pure
open Go.RowKit Go.Proofs.Ytndclhdlkhdlmaa.PFnExactRootMod Go.Proofs.YtndclhdlkhdlmaaW.PrintWords Go.Proofs.YtndclhdlkhdlmaaW.PrintLast Go.Proofs.YtndclhdlkhdlmaaW.PrintMore Go.Proofs.LG

theorem spec_l6In_eq (a b c : Int) : spec_l6In.f a b c = some (decide (b ≤ a ∧ a ≤ c)) := by
  unfold spec_l6In.f
  by_cases h : a ≥ b
  · rw [if_pos h]; congr 1; rw [decide_eq_decide]; omega
  · rw [if_neg h]; congr 1; symm; rw [decide_eq_false_iff_not]; omega
theorem spec_l1Number_eq (a : Int) : spec_l1Number.f a = some (numB a) := by
  unfold spec_l1Number.f; rw [spec_l6In_eq]; rfl
theorem impl_isNumber_eq (a : Int) : impl_isNumber.f a = some (numB a) := by
  unfold impl_isNumber.f numB
  by_cases h : a ≥ -5000
  · rw [if_pos h]; congr 1; rw [decide_eq_decide]; omega
  · rw [if_neg h]; congr 1; symm; rw [decide_eq_false_iff_not]; omega
theorem spec_l1Mod_eq {n m : Int} (h0 : 0 < m) (h1 : m ≤ 1000000000) : spec_l1Mod.f n m = some (n % m) := by
  unfold spec_l1Mod.f; rw [if_neg (by omega), rest_form h0 h1]
theorem impl_rest_eq {n m : Int} (h0 : 0 < m) (h1 : m ≤ 1000000000) : impl_rest.f n m = some (n % m) := by
  unfold impl_rest.f; rw [if_neg (by omega), rest_form h0 h1]
theorem spec_RootMod_l0 {n m : Int} (hn : numB n = true) (hm : 1 ≤ m) (hm' : m ≤ 5000) : ∀ (d : Nat) (x : Int), 0 ≤ x → x + d = m → Ev (fun k => spec_RootMod.l0 k n m x) (two (srch (fun x => decide (x * x % m = n % m)) d x)) := by
  have hn' := numB_true.1 hn
  intro d
  induction d with
  | zero =>
    intro x h0 hd
    refine Ev.step (f := fun k => spec_RootMod.j1 k n m x false) (fun k => ?_) (Ev.step (f := fun _ => some (0, false)) (fun k => ?_) (Ev.now _))
    · rw [spec_RootMod.l0, if_neg (by omega)]
    · rw [spec_RootMod.j1, if_neg (by simp)]
  | succ d ih =>
    intro x h0 hd
    have hb := mul_bd h0 (show x ≤ 5000 by omega) h0 (show x ≤ 5000 by omega)
    refine Ev.step (f := fun k => spec_RootMod.j1 k n m x true) (fun k => ?_) ?_
    · rw [spec_RootMod.l0, if_pos (by omega), spec_l1Number_eq, Option.bind_some, if_pos hn, spec_l6In_eq, Option.bind_some, decide_eq_true ⟨hm, hm'⟩]
    · rw [srch]
      by_cases h : x * x % m = n % m
      · rw [if_pos (decide_eq_true h)]
        refine Ev.step (f := fun _ => some (x, true)) (fun k => ?_) (Ev.now _)
        rw [spec_RootMod.j1, if_pos rfl, w64 (x := x * x) (by omega) (by omega), w64 (by omega) (by omega), spec_l1Mod_eq (by omega) (by omega), Option.bind_some, if_pos (Int.emod_eq_emod_iff_emod_sub_eq_zero.1 h)]
      · rw [if_neg (by simpa using h)]
        refine Ev.step (fun k => ?_) (ih (x + 1) (by omega) (by omega))
        rw [spec_RootMod.j1, if_pos rfl, w64 (x := x * x) (by omega) (by omega), w64 (x := x * x - n) (by omega) (by omega), spec_l1Mod_eq (by omega) (by omega), Option.bind_some, if_neg (fun e => h (Int.emod_eq_emod_iff_emod_sub_eq_zero.2 e)), w64 (by omega) (by omega)]
theorem spec_RootMod_ev (n m : Int) : Ev (fun k => spec_RootMod.f k n m) (rootOf n m) := by
  unfold spec_RootMod.f rootOf
  by_cases h : numB n = true ∧ 1 ≤ m ∧ m ≤ 5000
  · rw [if_pos h]
    exact spec_RootMod_l0 h.1 h.2.1 h.2.2 _ 0 (by omega) (by omega)
  · rw [if_neg h]
    refine Ev.step (f := fun k => spec_RootMod.j1 k n m 0 false) (fun k => ?_) (Ev.step (f := fun _ => some (0, false)) (fun k => ?_) (Ev.now _))
    · rw [spec_RootMod.l0]
      by_cases h0 : 0 < m
      · rw [if_pos h0, spec_l1Number_eq, Option.bind_some]
        by_cases h1 : numB n = true
        · rw [if_pos h1, spec_l6In_eq, Option.bind_some, decide_eq_false (fun h' => h ⟨h1, h'⟩)]
        · rw [if_neg h1]
      · rw [if_neg h0]
    · rw [spec_RootMod.j1, if_neg (by simp)]
theorem impl_rootMod_l0 {n m : Int} (hm : 1 ≤ m) (hm' : m ≤ 5000) : ∀ (d : Nat) (x : Int), 0 ≤ x → x + d = m → Ev (fun k => impl_rootMod.l0 k n m m x) (two (srch (fun x => decide (x * x % m = n % m)) d x)) := by
  intro d
  induction d with
  | zero =>
    intro x h0 hd
    refine Ev.step (f := fun _ => some (0, false)) (fun k => ?_) (Ev.now _)
    rw [impl_rootMod.l0, if_neg (by omega)]
  | succ d ih =>
    intro x h0 hd
    have hb := mul_bd h0 (show x ≤ 5000 by omega) h0 (show x ≤ 5000 by omega)
    rw [srch]
    by_cases h : x * x % m = n % m
    · rw [if_pos (decide_eq_true h)]
      refine Ev.step (f := fun _ => some (x, true)) (fun k => ?_) (Ev.now _)
      rw [impl_rootMod.l0, if_pos (by omega), if_neg (by omega), impl_rest_eq (by omega) (by omega), Option.bind_some, w64 (by omega) (by omega), tm hb.1, if_pos h]
    · rw [if_neg (by simpa using h)]
      refine Ev.step (fun k => ?_) (ih (x + 1) (by omega) (by omega))
      rw [impl_rootMod.l0, if_pos (by omega), if_neg (by omega), impl_rest_eq (by omega) (by omega), Option.bind_some, w64 (x := x * x) (by omega) (by omega), tm hb.1, if_neg h, w64 (by omega) (by omega)]
theorem impl_rootMod_ev {n m : Int} (hm : 1 ≤ m) (hm' : m ≤ 5000) : Ev (fun k => impl_rootMod.f k n m) (two (rootS n m)) :=
  impl_rootMod_l0 hm hm' _ 0 (by omega) (by omega)
theorem impl_RootMod_ev (n m : Int) : Ev (fun k => impl_RootMod.f k n m) (rootOf n m) := by
  unfold impl_RootMod.f rootOf
  simp only [impl_isNumber_eq, Option.bind_some]
  by_cases h : numB n = true
  · simp only [if_pos h]
    by_cases h1 : m < 1
    · simp only [if_pos h1]; rw [if_neg (by omega)]; exact Ev.now _
    · simp only [if_neg h1]
      by_cases h5 : m > 5000
      · simp only [if_pos h5]; rw [if_neg (by omega)]; exact Ev.now _
      · simp only [if_neg h5]; rw [if_pos ⟨h, by omega, by omega⟩]
        exact Ev.bind (impl_rootMod_ev (by omega) (by omega)) (Ev.now _)
  · simp only [if_neg h]; rw [if_neg (fun h' => h h'.1)]; exact Ev.now _
theorem FnExactRootMod : laws_FnExactRootMod.Pure := by
  intro n m _ _
  refine Ev.rounds ?_
  unfold laws_FnExactRootMod.f
  refine Ev.bind (spec_RootMod_ev n m) (Ev.bind (impl_RootMod_ev n m) ?_)
  rw [if_pos rfl, bne_self_eq_false, if_neg (by simp)]; exact Ev.now _

end Go.Proofs.Ytndclhdlkhdlmaa.Pure
