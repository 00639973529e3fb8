/- Plain arithmetic: sums of two squares up to a prime. -/
import Derived.Test.YtmepbogcfkecnaaM10
set_option linter.unusedVariables false
set_option linter.unusedSimpArgs false
namespace Go.Proofs.LG
open Go.RowKit

/-- Up to an odd prime -1 is a sum of two squares. -/
theorem two_squares {p : Int} (hp : Pr p) (h2 : p ≠ 2) : ∃ x y : Int, p ∣ x * x + y * y + 1 := by
  by_cases h1 : IsRes p (-1)
  · obtain ⟨x, hx⟩ := h1
    exact ⟨x, 0, by have e : x * x + 0 * 0 + 1 = x * x - -1 := by omega
                    rw [e]; exact hx⟩
  · obtain ⟨n1, n2, n3, n4⟩ := nr_spec hp h2
    have hm1 : ¬ p ∣ -1 := fun h => hp.not_dvd_one (Int.dvd_neg.1 h)
    have hl1 : leg (-1) p = -1 := leg_neg hm1 h1
    have hlu : leg (-1 * nrOf p) p = 1 := by rw [leg_mul hp h2, hl1, n3]; rfl
    have hl2 : leg (nrOf p - 1) p = 1 := by
      by_cases e : nrOf p = 2
      · rw [e]; exact leg_of_one hp
      · exact n4 _ (by omega) (by omega)
    obtain ⟨x, hx⟩ := (leg_eq_one.1 hl2).2
    obtain ⟨y, hy⟩ := (leg_eq_one.1 hlu).2
    refine ⟨x, y, ?_⟩
    have e : x * x + y * y + 1 = (x * x - (nrOf p - 1)) + (y * y - -1 * nrOf p) := by omega
    rw [e]; exact Int.dvd_add hx hy

end Go.Proofs.LG
