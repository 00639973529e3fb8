/- The program's SquareIs and the reference's answer alike at every integer.
No condition beyond the given statement. The printed functions are tied to plain arithmetic one by one; the law follows at the end. -/
import Derived.Test.YtndclhdlkhdlmaaPFnExactSquareIsx1
import Derived.Test.YtndclhdlkhdlmaaM3
set_option linter.unusedVariables false
set_option linter.unusedSimpArgs false
namespace Go.Proofs.Ytndclhdlkhdlmaa.Pure
open Go.RowKit Go.Proofs.Ytndclhdlkhdlmaa.PFnExactSquareIs Go.Proofs.YtndclhdlkhdlmaaW.PrintWords Go.Proofs.YtndclhdlkhdlmaaW.PrintLast Go.Proofs.YtndclhdlkhdlmaaW.PrintMore Go.Proofs.LG

theorem spec_l6In_eq (a b c : Int) : spec_l6In.f a b c = some (decide (b ≤ a ∧ a ≤ c)) := by
  unfold spec_l6In.f
  by_cases h : a ≥ b
  · rw [if_pos h]; congr 1; rw [decide_eq_decide]; omega
  · rw [if_neg h]; congr 1; symm; rw [decide_eq_false_iff_not]; omega
theorem spec_l1Number_eq (a : Int) : spec_l1Number.f a = some (numB a) := by
  unfold spec_l1Number.f; rw [spec_l6In_eq]; rfl
theorem impl_isNumber_eq (a : Int) : impl_isNumber.f a = some (numB a) := by
  unfold impl_isNumber.f numB
  by_cases h : a ≥ -5000
  · rw [if_pos h]; congr 1; rw [decide_eq_decide]; omega
  · rw [if_neg h]; congr 1; symm; rw [decide_eq_false_iff_not]; omega
theorem spec_l1Square_l0 {n : Int} (hn : -5000 ≤ n) (hn' : n ≤ 5000) : ∀ (d : Nat) (x : Int), 0 ≤ x → x + d = 5001 → (∀ y, 0 ≤ y → y < x → y * y < n) → Ev (fun k => spec_l1Square.l0 k n x) (sqB n) := by
  intro d
  induction d with
  | zero =>
    intro x h0 hd h
    have := h 5000 (by omega) (by omega)
    omega
  | succ d ih =>
    intro x h0 hd h
    have hb := mul_bd h0 (show x ≤ 5001 by omega) h0 (show x ≤ 5001 by omega)
    by_cases hlt : x * x < n
    · refine Ev.step (fun k => ?_) (ih (x + 1) (by omega) (by omega) fun y h1 h2 => ?_)
      · rw [spec_l1Square.l0, w64 (by omega) (by omega), if_pos hlt, w64 (by omega) (by omega)]
      · by_cases e : y = x
        · subst e; exact hlt
        · exact h y h1 (by omega)
    · refine Ev.step (f := fun _ => some (x * x == n)) (fun k => ?_) ?_
      · rw [spec_l1Square.l0, w64 (by omega) (by omega), if_neg hlt]
      · by_cases e : x * x = n
        · rw [sqB_true.2 ⟨x, e⟩, beq_iff_eq.2 e]; exact Ev.now _
        · have : sqB n = false := by
            rw [sqB_false]
            rintro ⟨k, hk⟩
            have hjj : ∃ y : Int, 0 ≤ y ∧ y * y = n := by
              by_cases h : 0 ≤ k
              · exact ⟨k, h, hk⟩
              · exact ⟨-k, by omega, by rw [Int.neg_mul_neg]; exact hk⟩
            obtain ⟨y, hy0, hy⟩ := hjj
            by_cases hyx : y < x
            · have := h y hy0 hyx; omega
            · by_cases hyx' : y = x
              · exact e (hyx' ▸ hy)
              · have h1 : (x + 1) * (x + 1) ≤ y * y := Int.mul_le_mul (by omega) (by omega) (by omega) (by omega)
                have h2 : (x + 1) * (x + 1) = x * x + 2 * x + 1 := by grind
                omega
          rw [this, beq_false_of_ne e]; exact Ev.now _
theorem spec_SquareIs_ev (n : Int) : Ev (fun k => spec_SquareIs.f k n) (squareOf n) := by
  unfold spec_SquareIs.f squareOf
  simp only [spec_l1Number_eq, Option.bind_some]
  by_cases h : numB n = true
  · simp only [if_pos h]
    have hn := numB_true.1 h
    rw [h, Bool.true_and]
    exact Ev.bind (spec_l1Square_l0 hn.1 hn.2 5001 0 (by omega) (by omega) fun y h1 h2 => by omega) (Ev.now _)
  · simp only [if_neg h]
    rw [Bool.not_eq_true] at h
    rw [h, Bool.false_and]; exact Ev.now _
theorem impl_squareRoot_l0 {n : Int} (hn : 0 ≤ n) (hn' : n ≤ 1000000) : ∀ (j : Nat) (x b : Int), 0 ≤ x → b = 2 ^ j → j ≤ 30 → x ≤ 1000000 → x * x ≤ n → n < (x + 2 * b) * (x + 2 * b) → ∃ r : Int, 0 ≤ r ∧ r * r ≤ n ∧ n < (r + 1) * (r + 1) ∧ Ev (fun k => impl_squareRoot.l0 k n x b) (r, r * r == n) := by
  intro j
  induction j with
  | zero =>
    intro x b h0 hb hj hx h1 h2
    have hb1 : b = 1 := by rw [hb]; rfl
    subst hb1
    have bd := mul_bd (show 0 ≤ x + 1 by omega) (show x + 1 ≤ 1000001 by omega) (show 0 ≤ x + 1 by omega) (show x + 1 ≤ 1000001 by omega)
    have bd2 := mul_bd h0 hx h0 hx
    by_cases hle : (x + 1) * (x + 1) ≤ n
    · have hx1 : x + 1 ≤ 1000000 := by
        by_cases h : x + 1 ≤ 1000000
        · exact h
        · have := mul_bd (show 0 ≤ (1000000 : Int) by omega) (show (1000000:Int) ≤ x + 1 by omega) (show 0 ≤ (1000000 : Int) by omega) (show (1000000:Int) ≤ x + 1 by omega)
          omega
      refine ⟨x + 1, by omega, hle, ?_, ?_⟩
      · have e : x + 2 * 1 = x + 1 + 1 := by omega
        rw [e] at h2; exact h2
      · refine Ev.step (f := fun k => impl_squareRoot.l0 k n (x + 1) 0) (fun k => ?_) (Ev.step (f := fun _ => some (x + 1, (x + 1) * (x + 1) == n)) (fun k => ?_) (Ev.now _))
        · rw [impl_squareRoot.l0, if_pos (by omega), w64 (x := x + 1) (by omega) (by omega), w64 (x := (x + 1) * (x + 1)) (by omega) (by omega), if_pos hle, half_one]
        · rw [impl_squareRoot.l0, if_neg (by omega), w64 (x := (x + 1) * (x + 1)) (by omega) (by omega)]
    · refine ⟨x, h0, h1, by omega, ?_⟩
      refine Ev.step (f := fun k => impl_squareRoot.l0 k n x 0) (fun k => ?_) (Ev.step (f := fun _ => some (x, x * x == n)) (fun k => ?_) (Ev.now _))
      · rw [impl_squareRoot.l0, if_pos (by omega), w64 (x := x + 1) (by omega) (by omega), w64 (x := (x + 1) * (x + 1)) (by omega) (by omega), if_neg hle, half_one]
      · rw [impl_squareRoot.l0, if_neg (by omega), w64 (x := x * x) (by omega) (by omega)]
  | succ j ih =>
    intro x b h0 hb hj hx h1 h2
    have hbp : b = 2 * 2 ^ j := by rw [hb, Int.pow_succ]; omega
    have hj1 : (1 : Int) ≤ 2 ^ j := pow_pos' (by omega) j
    have hj2 : (2 : Int) ^ j ≤ 1073741824 := by
      have h30 : ((2 : Nat) ^ j) ≤ 2 ^ 30 := Nat.pow_le_pow_right (by omega) (by omega)
      have e : ((2 ^ j : Nat) : Int) = (2 : Int) ^ j := by rw [Int.natCast_pow]; rfl
      rw [← e]
      have : (2 : Nat) ^ 30 = 1073741824 := by decide
      omega
    have bd := mul_bd (show 0 ≤ x + b by omega) (show x + b ≤ 3000000000 by omega) (show 0 ≤ x + b by omega) (show x + b ≤ 3000000000 by omega)
    have hhalf : Int.tdiv b 2 = 2 ^ j := by rw [hbp, Int.mul_tdiv_cancel_left _ (by omega)]
    by_cases hle : (x + b) * (x + b) ≤ n
    · have hx1 : x + b ≤ 1000000 := by
        by_cases h : x + b ≤ 1000000
        · exact h
        · have := mul_bd (show 0 ≤ (1000001 : Int) by omega) (show (1000001:Int) ≤ x + b by omega) (show 0 ≤ (1000001 : Int) by omega) (show (1000001:Int) ≤ x + b by omega)
          omega
      obtain ⟨r, a1, a2, a3, a4⟩ := ih (x + b) (2 ^ j) (by omega) rfl (by omega) hx1 hle (by
        have e : x + b + 2 * 2 ^ j = x + 2 * b := by omega
        rw [e]; exact h2)
      refine ⟨r, a1, a2, a3, Ev.step (fun k => ?_) a4⟩
      rw [impl_squareRoot.l0, if_pos (by omega), w64 (x := x + b) (by omega) (by omega), w64 (x := (x + b) * (x + b)) (by omega) (by omega), if_pos hle, hhalf, w64 (by omega) (by omega)]
    · obtain ⟨r, a1, a2, a3, a4⟩ := ih x (2 ^ j) h0 rfl (by omega) hx h1 (by rw [← hbp]; omega)
      refine ⟨r, a1, a2, a3, Ev.step (fun k => ?_) a4⟩
      rw [impl_squareRoot.l0, if_pos (by omega), w64 (x := x + b) (by omega) (by omega), w64 (x := (x + b) * (x + b)) (by omega) (by omega), if_neg hle, hhalf, w64 (by omega) (by omega)]
theorem impl_isSquare_ev {n : Int} (hn' : n ≤ 1000000) : Ev (fun k => impl_isSquare.f k n) (sqB n) := by
  unfold impl_isSquare.f impl_squareRoot.f
  by_cases h : n < 0
  · simp only [if_pos h, Option.bind_some]
    have : sqB n = false := by
      rw [sqB_false]
      rintro ⟨k, hk⟩
      have := sq_nonneg k
      omega
    rw [this]; exact Ev.now _
  · simp only [if_neg h]
    obtain ⟨r, a1, a2, a3, a4⟩ := impl_squareRoot_l0 (n := n) (by omega) hn' 30 0 1073741824 (by omega) (by decide) (by omega) (by omega) (by omega) (by omega)
    refine Ev.bind a4 ?_
    have : sqB n = (r * r == n) := by
      by_cases e : r * r = n
      · rw [sqB_true.2 ⟨r, e⟩, beq_iff_eq.2 e]
      · rw [beq_false_of_ne e, sqB_false]
        rintro ⟨k, hk⟩
        have hjj : ∃ y : Int, 0 ≤ y ∧ y * y = n := by
          by_cases h : 0 ≤ k
          · exact ⟨k, h, hk⟩
          · exact ⟨-k, by omega, by rw [Int.neg_mul_neg]; exact hk⟩
        obtain ⟨y, hy0, hy⟩ := hjj
        by_cases hyr : y ≤ r
        · by_cases hyr' : y = r
          · exact e (hyr' ▸ hy)
          · have h1 : (y + 1) * (y + 1) ≤ r * r := Int.mul_le_mul (by omega) (by omega) (by omega) (by omega)
            have h2 : (y + 1) * (y + 1) = y * y + 2 * y + 1 := by grind
            omega
        · have h1 : (r + 1) * (r + 1) ≤ y * y := Int.mul_le_mul (by omega) (by omega) (by omega) (by omega)
          omega
    rw [this]; exact Ev.now _
theorem impl_SquareIs_ev (n : Int) : Ev (fun k => impl_SquareIs.f k n) (squareOf n) := by
  unfold impl_SquareIs.f squareOf
  simp only [impl_isNumber_eq, Option.bind_some]
  by_cases h : numB n = true
  · simp only [if_pos h]
    have hn := numB_true.1 h
    rw [h, Bool.true_and]
    exact Ev.bind (impl_isSquare_ev (by omega)) (Ev.now _)
  · simp only [if_neg h]
    rw [Bool.not_eq_true] at h
    rw [h, Bool.false_and]; exact Ev.now _
theorem FnExactSquareIs : laws_FnExactSquareIs.Pure := by
  intro n _
  refine Ev.rounds ?_
  unfold laws_FnExactSquareIs.f
  refine Ev.bind (spec_SquareIs_ev n) (Ev.bind (impl_SquareIs_ev n) ?_)
  rw [bne_self_eq_false, if_neg (by simp)]; exact Ev.now _

end Go.Proofs.Ytndclhdlkhdlmaa.Pure
