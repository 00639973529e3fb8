/- The program's GcdOf and the reference's answer alike at every two integers.
No condition beyond the given statement. The printed functions are tied to plain arithmetic one by one; the law follows at the end. -/
import Derived.Test.YtndclhdlkhdlmaaPFnExactGcdOfx1
import Derived.Test.YtndclhdlkhdlmaaM3
set_option linter.unusedVariables false
set_option linter.unusedSimpArgs false
namespace Go.Proofs.Ytndclhdlkhdlmaa.Pure
open Go.RowKit Go.Proofs.Ytndclhdlkhdlmaa.PFnExactGcdOf Go.Proofs.YtndclhdlkhdlmaaW.PrintWords Go.Proofs.YtndclhdlkhdlmaaW.PrintLast Go.Proofs.YtndclhdlkhdlmaaW.PrintMore Go.Proofs.LG

theorem spec_l6In_eq (a b c : Int) : spec_l6In.f a b c = some (decide (b ≤ a ∧ a ≤ c)) := by
  unfold spec_l6In.f
  by_cases h : a ≥ b
  · rw [if_pos h]; congr 1; rw [decide_eq_decide]; omega
  · rw [if_neg h]; congr 1; symm; rw [decide_eq_false_iff_not]; omega
theorem spec_l1Number_eq (a : Int) : spec_l1Number.f a = some (numB a) := by
  unfold spec_l1Number.f; rw [spec_l6In_eq]; rfl
theorem impl_isNumber_eq (a : Int) : impl_isNumber.f a = some (numB a) := by
  unfold impl_isNumber.f numB
  by_cases h : a ≥ -5000
  · rw [if_pos h]; congr 1; rw [decide_eq_decide]; omega
  · rw [if_neg h]; congr 1; symm; rw [decide_eq_false_iff_not]; omega
theorem spec_l1Size_eq {n : Int} (h : -1000000000000 ≤ n) (h' : n ≤ 1000000000000) : spec_l1Size.f n = some (n.natAbs : Int) := by
  unfold spec_l1Size.f mx
  rw [w64 (by omega) (by omega)]
  congr 1
  split <;> omega
theorem impl_size_eq {n : Int} (h : -1000000000000 ≤ n) (h' : n ≤ 1000000000000) : impl_size.f n = some (n.natAbs : Int) := by
  unfold impl_size.f mx
  rw [w64 (by omega) (by omega)]
  congr 1
  split <;> omega
theorem spec_l1Gcd_l0 : ∀ (f : Nat) (x y : Int), 0 ≤ x → 0 ≤ y → y < f → Ev (fun k => spec_l1Gcd.l0 k x y) (Int.gcd x y : Int) := by
  intro f
  induction f with
  | zero => intro x y hx hy hf; omega
  | succ f ih =>
    intro x y hx hy hf
    by_cases h : y = 0
    · subst h
      refine Ev.step (f := fun _ => some x) (fun k => ?_) ?_
      · rw [spec_l1Gcd.l0, if_pos rfl]
      · have e : (Int.gcd x 0 : Int) = x := by rw [Int.gcd_zero]; omega
        rw [e]; exact Ev.now _
    · have r := emod_bd x (show 0 < y by omega)
      rw [gcd_step hx (by omega)]
      refine Ev.step (fun k => ?_) (ih y (x % y) hy r.1 (by omega))
      rw [spec_l1Gcd.l0, if_neg h, tm hx]
theorem spec_GcdOf_ev (a b : Int) : Ev (fun k => spec_GcdOf.f k a b) (gcdOf a b) := by
  unfold spec_GcdOf.f gcdOf
  simp only [spec_l1Number_eq, Option.bind_some]
  by_cases ha : numB a = true
  · simp only [if_pos ha]
    by_cases hb : numB b = true
    · simp only [if_pos hb]; rw [if_pos ⟨ha, hb⟩]
      have ha' := numB_true.1 ha
      have hb' := numB_true.1 hb
      refine Ev.bind ?_ (Ev.now _)
      unfold spec_l1Gcd.f
      simp only [spec_l1Size_eq (n := a) (by omega) (by omega), spec_l1Size_eq (n := b) (by omega) (by omega), Option.bind_some]
      have := spec_l1Gcd_l0 (b.natAbs + 1) a.natAbs b.natAbs (by omega) (by omega) (by omega)
      rw [Int.gcd_natCast_natCast] at this
      exact this
    · simp only [if_neg hb]; rw [if_neg (fun h => hb h.2)]; exact Ev.now _
  · simp only [if_neg ha]; rw [if_neg (fun h => ha h.1)]; exact Ev.now _
theorem impl_gcd_l1 {l : List Int} {L i r : Int} : ∀ (f : Nat) (x y : Int), 0 ≤ x → 0 ≤ y → y < f → Ev (fun k => impl_gcd.l0 k (Int.gcd x y : Int) l L (i + 1)) r → 0 ≤ i → i < 1000000 → Ev (fun k => impl_gcd.l1 k x y l L i) r := by
  intro f
  induction f with
  | zero => intro x y hx hy hf; omega
  | succ f ih =>
    intro x y hx hy hf hr hi hi'
    by_cases h : y = 0
    · subst h
      have e : (Int.gcd x 0 : Int) = x := by rw [Int.gcd_zero]; omega
      rw [e] at hr
      refine Ev.step (fun k => ?_) hr
      rw [impl_gcd.l1, if_pos rfl, w64 (by omega) (by omega)]
    · have r := emod_bd x (show 0 < y by omega)
      rw [gcd_step hx (by omega)] at hr
      refine Ev.step (fun k => ?_) (ih y (x % y) hy r.1 (by omega) hr hi hi')
      rw [impl_gcd.l1, if_neg h, tm hx]
theorem impl_gcd_two {a b : Int} (ha : -5000 ≤ a) (ha' : a ≤ 5000) (hb : -5000 ≤ b) (hb' : b ≤ 5000) : Ev (fun k => impl_gcd.f k [a, b]) (Int.gcd a b : Int) := by
  unfold impl_gcd.f
  refine Ev.step (f := fun k => impl_gcd.l1 k 0 a.natAbs [a, b] 2 0) (fun k => ?_) ?_
  · rw [impl_gcd.l0]
    show (if (0 : Int) < 2 then _ else _) = _
    rw [if_pos (by omega), if_pos (by omega), if_pos (by simp), show rd [a, b] 0 = a from rfl, impl_size_eq (by omega) (by omega), Option.bind_some]
    rfl
  · refine impl_gcd_l1 (a.natAbs + 1) 0 a.natAbs (by omega) (by omega) (by omega) ?_ (by omega) (by omega)
    have e : (Int.gcd 0 (a.natAbs : Int) : Int) = a.natAbs := by rw [Int.zero_gcd]; omega
    rw [e]
    refine Ev.step (f := fun k => impl_gcd.l1 k a.natAbs b.natAbs [a, b] 2 1) (fun k => ?_) ?_
    · rw [impl_gcd.l0, if_pos (by omega), if_pos (by omega), if_pos (by simp), show rd [a, b] (0 + 1) = b from rfl, impl_size_eq (by omega) (by omega), Option.bind_some]
      rfl
    · refine impl_gcd_l1 (b.natAbs + 1) a.natAbs b.natAbs (by omega) (by omega) (by omega) ?_ (by omega) (by omega)
      rw [Int.gcd_natCast_natCast]
      refine Ev.step (f := fun _ => some (Int.gcd a b : Int)) (fun k => ?_) (Ev.now _)
      rw [impl_gcd.l0, if_neg (by omega)]; rfl
theorem impl_GcdOf_ev (a b : Int) : Ev (fun k => impl_GcdOf.f k a b) (gcdOf a b) := by
  unfold impl_GcdOf.f gcdOf
  simp only [impl_isNumber_eq, Option.bind_some]
  by_cases ha : numB a = true
  · simp only [if_pos ha]
    by_cases hb : numB b = true
    · simp only [if_pos hb]; rw [if_pos ⟨ha, hb⟩]
      have ha' := numB_true.1 ha
      have hb' := numB_true.1 hb
      exact Ev.bind (impl_gcd_two ha'.1 ha'.2 hb'.1 hb'.2) (Ev.now _)
    · simp only [if_neg hb]; rw [if_neg (fun h => hb h.2)]; exact Ev.now _
  · simp only [if_neg ha]; rw [if_neg (fun h => ha h.1)]; exact Ev.now _
theorem FnExactGcdOf : laws_FnExactGcdOf.Pure := by
  intro a b _ _
  refine Ev.rounds ?_
  unfold laws_FnExactGcdOf.f
  refine Ev.bind (spec_GcdOf_ev a b) (Ev.bind (impl_GcdOf_ev a b) ?_)
  rw [if_pos rfl]; exact Ev.now _

end Go.Proofs.Ytndclhdlkhdlmaa.Pure
