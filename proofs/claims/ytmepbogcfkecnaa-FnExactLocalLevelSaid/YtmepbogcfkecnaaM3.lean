/- Words between the printed functions and plain arithmetic: wrapping, remainders, a search, numbers and places. -/
import Derived.RowKit
import Derived.Test.YtmepbogcfkecnaaM2
set_option linter.unusedVariables false
set_option linter.unusedSimpArgs false
namespace Go.Proofs.LG
open Go.RowKit

theorem w64 {x : Int} (h1 : -9223372036854775808 ≤ x) (h2 : x ≤ 9223372036854775807) : wrap64 x = x := by unfold wrap64; omega

theorem tm {a b : Int} (h : 0 ≤ a) : Int.tmod a b = a % b := Int.tmod_eq_emod_of_nonneg h

theorem tm_zero {a b : Int} : Int.tmod a b = 0 ↔ a % b = 0 :=
  ⟨fun h => Int.emod_eq_zero_of_dvd (Int.dvd_of_tmod_eq_zero h), fun h => Int.tmod_eq_zero_of_dvd (Int.dvd_of_emod_eq_zero h)⟩

theorem td_dvd {a b : Int} (h : a % b = 0) : Int.tdiv a b = a / b := Int.tdiv_eq_ediv_of_dvd (Int.dvd_of_emod_eq_zero h)

/-- 'rest' and 'l1Mod': the rest from 0 on. -/
theorem rest_form {n m : Int} (h0 : 0 < m) (h1 : m ≤ 1000000000) : Int.tmod (wrap64 ((Int.tmod n m) + m)) m = n % m := by
  have a := Int.lt_tmod_of_pos n h0
  have b := Int.tmod_lt_of_pos n h0
  rw [w64 (by omega) (by omega), tm (by omega), Int.add_emod_right]
  exact Int.emod_eq_emod_iff_emod_sub_eq_zero.2 (Int.emod_eq_zero_of_dvd Int.dvd_tmod_sub_self)

theorem emod_bd (n : Int) {m : Int} (h0 : 0 < m) : 0 ≤ n % m ∧ n % m < m := ⟨Int.emod_nonneg _ (by omega), Int.emod_lt_of_pos _ h0⟩

theorem mul_bd {a b A B : Int} (ha : 0 ≤ a) (ha' : a ≤ A) (hb : 0 ≤ b) (hb' : b ≤ B) : 0 ≤ a * b ∧ a * b ≤ A * B :=
  ⟨Int.mul_nonneg ha hb, Int.mul_le_mul ha' hb' hb (by omega)⟩

theorem sq_gt {n x : Int} (h2 : 2 ≤ x) (h : n ≤ x) : n < x * x := by
  have := Int.mul_le_mul_of_nonneg_right h2 (show 0 ≤ x by omega)
  omega

theorem abs_mul_bd {a b A B : Int} (ha : -A ≤ a) (ha' : a ≤ A) (hb : -B ≤ b) (hb' : b ≤ B) : -(A * B) ≤ a * b ∧ a * b ≤ A * B := by
  have h : (a * b).natAbs ≤ (A * B).natAbs := by
    rw [Int.natAbs_mul, Int.natAbs_mul]
    exact Nat.mul_le_mul (by omega) (by omega)
  have : 0 ≤ A * B := Int.mul_nonneg (by omega) (by omega)
  omega

theorem sq_nonneg (k : Int) : 0 ≤ k * k := by rw [← Int.natAbs_mul_self]; omega
theorem half_one : wrap64 (Int.tdiv 1 2) = 0 := by rw [show Int.tdiv (1 : Int) 2 = 0 from rfl, w64 (by omega) (by omega)]

theorem tdiv_half {a : Int} (h : 0 ≤ a) : Int.tdiv a 2 = a / 2 := Int.tdiv_eq_ediv_of_nonneg h
theorem beq_decide (a b : Int) : (a == b) = decide (a = b) := rfl

/-! ### A search from i on, d steps -/
def srch (P : Int → Bool) : Nat → Int → Option Int
  | 0, _ => none
  | d + 1, i => if P i = true then some i else srch P d (i + 1)

theorem srch_some {P : Int → Bool} : ∀ {d : Nat} {i x : Int}, srch P d i = some x → i ≤ x ∧ x < i + d ∧ P x = true ∧ ∀ y, i ≤ y → y < x → P y = false
  | 0, i, x, h => by simp [srch] at h
  | d + 1, i, x, h => by
    rw [srch] at h
    by_cases hp : P i = true
    · rw [if_pos hp] at h
      cases h
      exact ⟨by omega, by omega, hp, fun y h1 h2 => by omega⟩
    · rw [if_neg hp] at h
      obtain ⟨h1, h2, h3, h4⟩ := srch_some h
      refine ⟨by omega, by omega, h3, fun y hy1 hy2 => ?_⟩
      by_cases e : y = i
      · subst e; simpa using hp
      · exact h4 y (by omega) hy2

theorem srch_none {P : Int → Bool} : ∀ {d : Nat} {i : Int}, srch P d i = none → ∀ y, i ≤ y → y < i + d → P y = false
  | 0, i, h => fun y h1 h2 => by omega
  | d + 1, i, h => by
    rw [srch] at h
    by_cases hp : P i = true
    · rw [if_pos hp] at h; cases h
    · rw [if_neg hp] at h
      intro y h1 h2
      by_cases e : y = i
      · subst e; simpa using hp
      · exact srch_none h y (by omega) (by omega)

theorem srch_of {P : Int → Bool} {d : Nat} {i x : Int} (h1 : i ≤ x) (h2 : x < i + d) (h3 : P x = true) : ∃ y, srch P d i = some y ∧ y ≤ x := by
  cases h : srch P d i with
  | none => rw [srch_none h x h1 h2] at h3; cases h3
  | some y =>
    refine ⟨y, rfl, ?_⟩
    obtain ⟨a, b, c, e⟩ := srch_some h
    by_cases hlt : x < y
    · rw [e x h1 hlt] at h3; cases h3
    · omega

theorem srch_eq {P : Int → Bool} {d : Nat} {i x : Int} (h1 : i ≤ x) (h2 : x < i + d) (h3 : P x = true) (h4 : ∀ y, i ≤ y → y < x → P y = false) : srch P d i = some x := by
  obtain ⟨y, hy, hle⟩ := srch_of h1 h2 h3
  obtain ⟨a, b, c, e⟩ := srch_some hy
  by_cases hlt : y < x
  · rw [h4 y a hlt] at c; cases c
  · rw [hy]; congr 1; omega

theorem srch_congr {P Q : Int → Bool} : ∀ {d : Nat} {i : Int}, (∀ y, i ≤ y → y < i + d → P y = Q y) → srch P d i = srch Q d i
  | 0, i, h => rfl
  | d + 1, i, h => by
    rw [srch, srch, h i (by omega) (by omega), srch_congr fun y h1 h2 => h y (by omega) (by omega)]

/-- c, c + 1, .., n of them. -/
def marks : Nat → Int → List Int
  | 0, _ => []
  | n + 1, c => c :: marks n (c + 1)

/-- What a search answers, in Go's two results. -/
def two : Option Int → Int × Bool
  | none => (0, false)
  | some x => (x, true)

/-! ### Numbers, places, named results -/
def numB (n : Int) : Bool := decide (-5000 ≤ n ∧ n ≤ 5000)
theorem numB_true {n : Int} : numB n = true ↔ -5000 ≤ n ∧ n ≤ 5000 := by simp [numB]
theorem numB_false {n : Int} : numB n = false ↔ ¬ (-5000 ≤ n ∧ n ≤ 5000) := by simp only [numB, decide_eq_false_iff_not]

noncomputable def plB (n : Int) : Bool := decide (n = 0) || prB n
theorem plB_true {n : Int} : plB n = true ↔ n = 0 ∨ (Pr n ∧ n ≤ 5000) := by simp [plB, prB_true]

def invS (n m : Int) : Option Int := srch (fun x => decide (n % m * x % m = 1)) (m - 1).toNat 1
def rootS (n m : Int) : Option Int := srch (fun x => decide (x * x % m = n % m)) m.toNat 0
noncomputable def valuOf (n p : Int) : Int := if n ≠ 0 ∧ numB n = true ∧ prB p = true then (vl n p : Int) else -1
noncomputable def sqB (n : Int) : Bool := @decide (∃ k : Int, k * k = n) (Classical.propDecidable _)
theorem sqB_true {n : Int} : sqB n = true ↔ ∃ k : Int, k * k = n := by unfold sqB; exact @decide_eq_true_iff _ (Classical.propDecidable _)
theorem sqB_false {n : Int} : sqB n = false ↔ ¬ ∃ k : Int, k * k = n := by unfold sqB; exact @decide_eq_false_iff_not _ (Classical.propDecidable _)

noncomputable def invOf (n m : Int) : Int × Bool := if numB n = true ∧ 2 ≤ m ∧ m ≤ 5000 then two (invS n m) else (0, false)
noncomputable def rootOf (n m : Int) : Int × Bool := if numB n = true ∧ 1 ≤ m ∧ m ≤ 5000 then two (rootS n m) else (0, false)
noncomputable def unitOf (n p : Int) : Int × Bool := if n ≠ 0 ∧ numB n = true ∧ prB p = true then (un n p, true) else (0, false)
noncomputable def squareOf (n : Int) : Bool := numB n && sqB n
noncomputable def powOf (n e m : Int) : Int × Bool := if numB n = true ∧ 0 ≤ e ∧ e ≤ 5000 ∧ 1 ≤ m ∧ m ≤ 5000 then (n ^ e.toNat % m, true) else (0, false)
noncomputable def gcdOf (a b : Int) : Int := if numB a = true ∧ numB b = true then (Int.gcd a b : Int) else -1

theorem valuOf_neg {n p : Int} : valuOf n p < 0 ↔ ¬ (n ≠ 0 ∧ numB n = true ∧ prB p = true) := by
  unfold valuOf
  by_cases h : n ≠ 0 ∧ numB n = true ∧ prB p = true
  · rw [if_pos h]; constructor
    · intro h'; omega
    · intro h'; exact absurd h h'
  · rw [if_neg h]; constructor
    · intro _; exact h
    · intro _; omega

theorem gcd_step {x y : Int} (hx : 0 ≤ x) (hy : 0 < y) : Int.gcd x y = Int.gcd y (x % y) := by
  rw [Int.gcd_comm x y]
  have e : x = x % y + y * (x / y) := by have := Int.emod_add_mul_ediv x y; omega
  conv => lhs; rw [e]
  exact Int.gcd_add_mul_left_right ..

theorem power_step (n i m : Int) (a : Nat) (h : i = n ^ a % m) : i * (n % m) % m = n ^ (a + 1) % m := by
  rw [h, Int.pow_succ, ← Int.mul_emod]

end Go.Proofs.LG
