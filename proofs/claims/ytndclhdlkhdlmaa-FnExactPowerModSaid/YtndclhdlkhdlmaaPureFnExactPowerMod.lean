/- The program's PowerMod and the reference's answer alike at every three integers.
No condition beyond the given statement. The printed functions are tied to plain arithmetic one by one; the law follows at the end. -/
import Derived.Test.YtndclhdlkhdlmaaPFnExactPowerModx1
import Derived.Test.YtndclhdlkhdlmaaM3
set_option linter.unusedVariables false
set_option linter.unusedSimpArgs false
namespace Go.Proofs.Ytndclhdlkhdlmaa.Pure
open Go.RowKit Go.Proofs.Ytndclhdlkhdlmaa.PFnExactPowerMod Go.Proofs.YtndclhdlkhdlmaaW.PrintWords Go.Proofs.YtndclhdlkhdlmaaW.PrintLast Go.Proofs.YtndclhdlkhdlmaaW.PrintMore Go.Proofs.LG

theorem spec_l6In_eq (a b c : Int) : spec_l6In.f a b c = some (decide (b ≤ a ∧ a ≤ c)) := by
  unfold spec_l6In.f
  by_cases h : a ≥ b
  · rw [if_pos h]; congr 1; rw [decide_eq_decide]; omega
  · rw [if_neg h]; congr 1; symm; rw [decide_eq_false_iff_not]; omega
theorem spec_l1Number_eq (a : Int) : spec_l1Number.f a = some (numB a) := by
  unfold spec_l1Number.f; rw [spec_l6In_eq]; rfl
theorem impl_isNumber_eq (a : Int) : impl_isNumber.f a = some (numB a) := by
  unfold impl_isNumber.f numB
  by_cases h : a ≥ -5000
  · rw [if_pos h]; congr 1; rw [decide_eq_decide]; omega
  · rw [if_neg h]; congr 1; symm; rw [decide_eq_false_iff_not]; omega
theorem spec_l1Mod_eq {n m : Int} (h0 : 0 < m) (h1 : m ≤ 1000000000) : spec_l1Mod.f n m = some (n % m) := by
  unfold spec_l1Mod.f; rw [if_neg (by omega), rest_form h0 h1]
theorem impl_rest_eq {n m : Int} (h0 : 0 < m) (h1 : m ≤ 1000000000) : impl_rest.f n m = some (n % m) := by
  unfold impl_rest.f; rw [if_neg (by omega), rest_form h0 h1]
theorem spec_l1Power_l0 {m : Int} (hm : 1 ≤ m) (hm' : m ≤ 5000) : ∀ (f : Nat) (b e o : Int), 0 ≤ e → e ≤ f → e ≤ 1000000000 → 0 ≤ b → b < m → 0 ≤ o → o < m → Ev (fun k => spec_l1Power.l0 k b e m o) (o * b ^ e.toNat % m) := by
  intro f
  induction f with
  | zero =>
    intro b e o he hf hE hb hb' ho ho'
    have : e = 0 := by omega
    subst this
    have e1 : o * b ^ (0 : Int).toNat % m = o := by
      show o * b ^ 0 % m = o
      rw [Int.pow_zero, Int.mul_one, Int.emod_eq_of_lt ho ho']
    rw [e1]
    refine Ev.step (f := fun _ => some o) (fun k => ?_) (Ev.now _)
    rw [spec_l1Power.l0, if_neg (by omega)]
  | succ f ih =>
    intro b e o he hf hE hb hb' ho ho'
    by_cases h0 : e = 0
    · subst h0
      have e1 : o * b ^ (0 : Int).toNat % m = o := by
        show o * b ^ 0 % m = o
        rw [Int.pow_zero, Int.mul_one, Int.emod_eq_of_lt ho ho']
      rw [e1]
      refine Ev.step (f := fun _ => some o) (fun k => ?_) (Ev.now _)
      rw [spec_l1Power.l0, if_neg (by omega)]
    · have bb := mul_bd hb (show b ≤ 5000 by omega) hb (show b ≤ 5000 by omega)
      have ob := mul_bd ho (show o ≤ 5000 by omega) hb (show b ≤ 5000 by omega)
      have r1 := emod_bd (b * b) (show 0 < m by omega)
      have r2 := emod_bd (o * b) (show 0 < m by omega)
      have hd : Int.tdiv e 2 = e / 2 := Int.tdiv_eq_ediv_of_nonneg he
      by_cases h1 : e % 2 = 1
      · have := ih (b * b % m) (e / 2) (o * b % m) (by omega) (by omega) (by omega) r1.1 r1.2 r2.1 r2.2
        have e1 : o * b % m * (b * b % m) ^ (e / 2).toNat % m = o * b ^ e.toNat % m := by
          have ee : e.toNat = 2 * (e / 2).toNat + 1 := by omega
          rw [Int.mul_emod, Int.emod_emod, emod_pow, ← Int.mul_emod, ee, Int.pow_succ, Int.pow_mul, pow_two']
          congr 1; grind
        rw [e1] at this
        refine Ev.step (fun k => ?_) this
        rw [spec_l1Power.l0, if_pos (by omega), tm he, if_pos h1, if_neg (by omega), w64 (x := b * b) (by omega) (by omega), tm bb.1, hd, w64 (x := e / 2) (by omega) (by omega), w64 (x := o * b) (by omega) (by omega), tm ob.1]
      · have := ih (b * b % m) (e / 2) o (by omega) (by omega) (by omega) r1.1 r1.2 ho ho'
        have e1 : o * (b * b % m) ^ (e / 2).toNat % m = o * b ^ e.toNat % m := by
          have ee : e.toNat = 2 * (e / 2).toNat := by omega
          rw [Int.mul_emod, emod_pow, ← Int.mul_emod, ee, Int.pow_mul, pow_two']
        rw [e1] at this
        refine Ev.step (fun k => ?_) this
        rw [spec_l1Power.l0, if_pos (by omega), tm he, if_neg h1, if_neg (by omega), w64 (x := b * b) (by omega) (by omega), tm bb.1, hd, w64 (x := e / 2) (by omega) (by omega)]
theorem spec_l1Power_ev {n e m : Int} (he : 0 ≤ e) (he' : e ≤ 1000000000) (hm : 1 ≤ m) (hm' : m ≤ 5000) : Ev (fun k => spec_l1Power.f k n e m) (n ^ e.toNat % m) := by
  unfold spec_l1Power.f
  simp only [if_neg (show ¬ m = 0 by omega), spec_l1Mod_eq (n := n) (show 0 < m by omega) (by omega), Option.bind_some]
  have r1 := emod_bd n (show 0 < m by omega)
  have r2 := emod_bd 1 (show 0 < m by omega)
  have := spec_l1Power_l0 hm hm' e.toNat (n % m) e (1 % m) he (by omega) he' r1.1 r1.2 r2.1 r2.2
  have e1 : 1 % m * (n % m) ^ e.toNat % m = n ^ e.toNat % m := by
    rw [Int.mul_emod, Int.emod_emod, emod_pow, ← Int.mul_emod, Int.one_mul]
  rw [e1] at this
  exact this
theorem spec_PowerMod_ev (n e m : Int) : Ev (fun k => spec_PowerMod.f k n e m) (powOf n e m) := by
  unfold spec_PowerMod.f powOf
  simp only [spec_l1Number_eq, spec_l6In_eq, Option.bind_some]
  by_cases h : numB n = true
  · simp only [if_pos h]
    by_cases he : 0 ≤ e ∧ e ≤ 5000
    · simp only [decide_eq_true he, if_true]
      by_cases hm : 1 ≤ m ∧ m ≤ 5000
      · simp only [decide_eq_true hm, if_true]
        rw [if_pos ⟨h, he.1, he.2, hm⟩]
        exact Ev.bind (spec_l1Power_ev he.1 (by omega) hm.1 hm.2) (Ev.now _)
      · simp only [decide_eq_false hm]
        rw [if_neg (fun h' => hm h'.2.2.2)]; exact Ev.now _
    · simp only [decide_eq_false he]
      rw [if_neg (fun h' => he ⟨h'.2.1, h'.2.2.1⟩)]; exact Ev.now _
  · simp only [if_neg h]
    rw [if_neg (fun h' => h h'.1)]; exact Ev.now _
theorem impl_PowerMod_l0 {n m E : Int} (hm : 1 ≤ m) (hm' : m ≤ 5000) (hE : E ≤ 5000) : ∀ (d : Nat) (o i : Int), 0 ≤ i → i + d = E → o = n ^ i.toNat % m → Ev (fun k => impl_PowerMod.l0 k n m o E i) (n ^ E.toNat % m, true) := by
  intro d
  induction d with
  | zero =>
    intro o i hi hd ho
    have : i = E := by omega
    subst this
    refine Ev.step (f := fun _ => some (o, true)) (fun k => ?_) ?_
    · rw [impl_PowerMod.l0, if_neg (by omega)]
    · rw [ho]; exact Ev.now _
  | succ d ih =>
    intro o i hi hd ho
    have r1 := emod_bd (n ^ i.toNat) (show 0 < m by omega)
    have r2 := emod_bd n (show 0 < m by omega)
    have bd := mul_bd (show 0 ≤ o by omega) (show o ≤ 5000 by omega) r2.1 (show n % m ≤ 5000 by omega)
    refine Ev.step (fun k => ?_) (ih (o * (n % m) % m) (i + 1) (by omega) (by omega) ?_)
    · rw [impl_PowerMod.l0, if_pos (by omega), impl_rest_eq (by omega) (by omega), Option.bind_some, if_neg (by omega), w64 (x := o * (n % m)) (by omega) (by omega), tm bd.1, w64 (by omega) (by omega)]
    · have ee : (i + 1).toNat = i.toNat + 1 := by omega
      rw [ee]; exact power_step n o m i.toNat ho
theorem impl_PowerMod_no (n e m : Int) : Ev (fun k => impl_PowerMod.j0 k n e m true) (0, false) := by
  refine Ev.step (f := fun _ => some (0, false)) (fun k => ?_) (Ev.now _)
  rw [impl_PowerMod.j0, if_pos rfl]
theorem impl_PowerMod_ev (n e m : Int) : Ev (fun k => impl_PowerMod.f k n e m) (powOf n e m) := by
  unfold impl_PowerMod.f powOf
  simp only [impl_isNumber_eq, Option.bind_some]
  by_cases h : numB n = true
  · simp only [if_pos h]
    by_cases he : e < 0
    · simp only [if_pos he]; rw [if_neg (by omega)]; exact impl_PowerMod_no ..
    · simp only [if_neg he]
      by_cases he' : e > 5000
      · simp only [if_pos he']; rw [if_neg (by omega)]; exact impl_PowerMod_no ..
      · simp only [if_neg he']
        by_cases hm : m < 1
        · simp only [if_pos hm]; rw [if_neg (by omega)]; exact impl_PowerMod_no ..
        · simp only [if_neg hm]
          by_cases hm' : m > 5000
          · rw [decide_eq_true hm', if_neg (by omega)]; exact impl_PowerMod_no ..
          · rw [decide_eq_false hm', if_pos ⟨h, by omega, by omega, by omega, by omega⟩]
            refine Ev.step (f := fun k => impl_PowerMod.l0 k n m (1 % m) e 0) (fun k => ?_) (impl_PowerMod_l0 (by omega) (by omega) (by omega) e.toNat _ 0 (by omega) (by omega) ?_)
            · rw [impl_PowerMod.j0, if_neg (by simp), if_neg (by omega)]
            · show 1 % m = n ^ 0 % m
              rw [Int.pow_zero]
  · simp only [if_neg h]; rw [if_neg (fun h' => h h'.1)]; exact impl_PowerMod_no ..
theorem FnExactPowerMod : laws_FnExactPowerMod.Pure := by
  intro n e m _ _ _
  refine Ev.rounds ?_
  unfold laws_FnExactPowerMod.f
  refine Ev.bind (spec_PowerMod_ev n e m) (Ev.bind (impl_PowerMod_ev n e m) ?_)
  rw [if_pos rfl, bne_self_eq_false, if_neg (by simp)]; exact Ev.now _

end Go.Proofs.Ytndclhdlkhdlmaa.Pure
