/- Plain arithmetic: how many triples solve an equation up to a small prime. -/
import Derived.Test.YtnbjnlbaoogbmaaM10
set_option linter.unusedVariables false
set_option linter.unusedSimpArgs false
namespace Go.Proofs.LG
open Go.RowKit

theorem W_mod (a b p m x y z : Int) : W a b p m x y z = W (a % m) (b % m) p m x y z := by
  unfold W
  have e : (z * z - a * x * x - b * y * y) % m = (z * z - a % m * x * x - b % m * y * y) % m := by
    rw [Int.emod_eq_emod_iff_emod_sub_eq_zero]
    refine Int.emod_eq_zero_of_dvd ?_
    have h1 : m ∣ a % m - a := Int.dvd_emod_sub_self
    have h2 : m ∣ b % m - b := Int.dvd_emod_sub_self
    have e2 : z * z - a * x * x - b * y * y - (z * z - a % m * x * x - b % m * y * y) = (a % m - a) * (x * x) + (b % m - b) * (y * y) := by grind
    rw [e2]
    exact Int.dvd_add (Int.dvd_mul_of_dvd_left h1) (Int.dvd_mul_of_dvd_left h2)
  rw [e]
theorem ways_mod (a b p m : Int) : cways a b p m = cways (a % m) (b % m) p m := by
  unfold cways
  refine sumI_congr fun x _ _ => sumI_congr fun y _ _ => cntI_congr fun z _ _ => ?_
  exact W_mod ..

def wayC (p : Nat) : Bool := (List.range p).all fun a => (List.range p).all fun b => (decide (a = 0) != decide (b = 0)) || decide (cways a b p p = (p : Int) * p - 1)
theorem ways_of {p : Nat} (hp : 0 < p) (h : wayC p = true) {a b : Int} (hab : (a % p = 0) ↔ (b % p = 0)) : cways a b p p = (p : Int) * p - 1 := by
  rw [ways_mod]
  have ba := emod_bd a (show (0 : Int) < p by omega)
  have bb := emod_bd b (show (0 : Int) < p by omega)
  unfold wayC at h
  simp only [List.all_eq_true, List.mem_range] at h
  have := h (a % p).toNat (by omega) (b % p).toNat (by omega)
  rw [Bool.or_eq_true, decide_eq_true_eq, Int.toNat_of_nonneg ba.1, Int.toNat_of_nonneg bb.1] at this
  rcases this with h | h
  · have e : decide ((a % (p : Int)).toNat = 0) = decide ((b % (p : Int)).toNat = 0) := by
      rw [decide_eq_decide]; omega
    rw [e, bne_self_eq_false] at h; cases h
  · exact h
theorem ways_3 : wayC 3 = true := by decide +kernel
theorem ways_5 : wayC 5 = true := by decide +kernel
theorem ways_7 : wayC 7 = true := by decide +kernel
theorem ways_11 : wayC 11 = true := by decide +kernel
def wayTwo : Bool := (List.range 2).all fun a => (List.range 2).all fun b => decide (1 ≤ cways a b 2 2)
theorem ways_2 : wayTwo = true := by decide +kernel
theorem ways_two (a b : Int) : 1 ≤ cways a b 2 2 := by
  rw [ways_mod]
  have h := ways_2
  unfold wayTwo at h
  simp only [List.all_eq_true, List.mem_range, decide_eq_true_eq] at h
  have := h (a % 2).toNat (by omega) (b % 2).toNat (by omega)
  rw [Int.toNat_of_nonneg (by omega), Int.toNat_of_nonneg (by omega)] at this
  exact this

end Go.Proofs.LG
