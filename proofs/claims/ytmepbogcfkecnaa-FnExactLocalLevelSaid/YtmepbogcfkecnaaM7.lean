/- The size of names at the places of the draws. -/
import Derived.Test.YtmepbogcfkecnaaM6
set_option linter.unusedVariables false
set_option linter.unusedSimpArgs false
namespace Go.Proofs.LG
open Go.RowKit

theorem nr_le {p y : Int} (hp : Pr p) (h2 : p ≠ 2) (hy : 2 ≤ y) (hl : leg y p = -1) : nrOf p ≤ y := by
  obtain ⟨n1, n2, n3, n4⟩ := nr_spec hp h2
  rcases Int.lt_or_le y (nrOf p) with h | h
  · rw [n4 y hy h] at hl; cases hl
  · exact h

theorem pr_97 : Pr 97 := prC_iff.1 (by decide +kernel)

theorem leg_5_97 : leg 5 97 = -1 := (leg_of_power pr_97 48 (by decide) 5 (-1) (by decide) (by decide) (by decide +kernel)).symm

/-- At a drawn place each name is a number. -/
theorem names_num {p m : Int} (hd : DP p) (hp : Pl p) (hm : m ∈ namesL p) : numB m = true := by
  rw [numB_true]
  rcases pl_cases hp with rfl | rfl | ⟨hq, h0, h2⟩
  · unfold namesL at hm
    rw [if_pos rfl] at hm
    simp only [List.mem_cons, List.not_mem_nil, or_false] at hm
    omega
  · unfold namesL at hm
    rw [if_neg (by decide), if_pos rfl] at hm
    simp only [List.mem_cons, List.not_mem_nil, or_false] at hm
    omega
  · unfold namesL at hm
    rw [if_neg h0, if_neg h2] at hm
    obtain ⟨n1, n2, n3, n4⟩ := nr_spec hq h2
    simp only [List.mem_cons, List.not_mem_nil, or_false] at hm
    have hpd := hd.prime hq
    by_cases h97 : p = 97
    · subst h97
      have := nr_le hq h2 (by omega) leg_5_97
      omega
    · have hp13 : p ≤ 13 := by omega
      have := mul_bd (show 0 ≤ p by have := hq.1; omega) hp13 (show 0 ≤ nrOf p by omega) (show nrOf p ≤ 13 by omega)
      omega

theorem sameOf_true {a b p : Int} (ha : a ≠ 0) (hb : b ≠ 0) (na : numB a = true) (nb : numB b = true) (hp : plB p = true) : sameOf a b p = lsq (a * b) p := by
  unfold sameOf; rw [decide_eq_true ha, decide_eq_true hb, na, nb, hp]; rfl

theorem sameOf_name {n m p : Int} (hn : n ≠ 0) (na : numB n = true) (hp : plB p = true) (hm : m ∈ namesL p) (nm' : numB m = true) : sameOf n m p = decide (m = nm n p) := by
  have hpl := (plB_pl hp).1
  rw [sameOf_true hn (mem_ne hpl hm) na nm' hp, Bool.eq_iff_iff, lsq_name hpl hn hm, decide_eq_true_iff]

theorem names_len (p : Int) : (namesL p).length ≤ 8 := by
  unfold namesL; split
  · simp
  · split <;> simp

end Go.Proofs.LG
