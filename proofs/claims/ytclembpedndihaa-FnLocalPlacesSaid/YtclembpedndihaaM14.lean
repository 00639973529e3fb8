/- Plain arithmetic: the places of a number, in order and few; where it is no local square. -/
import Derived.Test.YtclembpedndihaaM10
set_option linter.unusedVariables false
set_option linter.unusedSimpArgs false
namespace Go.Proofs.LG
open Go.RowKit

/-- The odd ones of a list of primes. -/
def oddL (l : List Int) : List Int := l.filter (fun p => decide (p > 2))
/-- The places of a number: 0, 2 and its odd primes. -/
def placesN (n : Int) : List Int := 0 :: 2 :: oddL (primesL n)
noncomputable def lplaces (n : Int) : List Int := (placesN n).filter (fun p => !lsq n p)
noncomputable def lplacesOf (n : Int) : List Int := if n ≠ 0 ∧ numB n = true then lplaces n else []

theorem oddL_app (a b : List Int) : oddL (a ++ b) = oddL a ++ oddL b := by unfold oddL; exact List.filter_append ..
theorem oddL_one (p : Int) : oddL [p] = if p > 2 then [p] else [] := by
  unfold oddL
  by_cases h : p > 2
  · rw [if_pos h, List.filter_cons_of_pos (by simpa using h)]; rfl
  · rw [if_neg h, List.filter_cons_of_neg (by simpa using h)]; rfl
theorem mem_oddL {l : List Int} {x : Int} : x ∈ oddL l ↔ x ∈ l ∧ x > 2 := by
  unfold oddL; rw [List.mem_filter, decide_eq_true_iff]
theorem mem_placesN {n x : Int} (hn : n ≠ 0) : x ∈ placesN n ↔ x = 0 ∨ x = 2 ∨ (Pr x ∧ x ∣ n) := by
  unfold placesN
  rw [List.mem_cons, List.mem_cons, mem_oddL, mem_primesL hn]
  constructor
  · rintro (h | h | h)
    · exact Or.inl h
    · exact Or.inr (Or.inl h)
    · exact Or.inr (Or.inr h.1)
  · rintro (h | h | h)
    · exact Or.inl h
    · exact Or.inr (Or.inl h)
    · by_cases e : x = 2
      · exact Or.inr (Or.inl e)
      · have := h.1.1; exact Or.inr (Or.inr ⟨h, by omega⟩)
theorem placesN_sorted {n : Int} (hn : n ≠ 0) : (placesN n).Pairwise (· < ·) := by
  unfold placesN
  rw [List.pairwise_cons, List.pairwise_cons]
  refine ⟨fun x hx => ?_, fun x hx => ?_, ?_⟩
  · rcases List.mem_cons.1 hx with rfl | hx
    · omega
    · have := (mem_oddL.1 hx).2; omega
  · have := (mem_oddL.1 hx).2; omega
  · unfold oddL; exact List.Pairwise.filter _ (primesL_sorted hn)

/-- Odd primes of a small number are few. -/
theorem three_pow {n : Int} (hn : n ≠ 0) : ∀ l : List Int, (∀ p ∈ l, 3 ≤ p ∧ p ∣ n) → (3 : Int) ^ l.length ≤ prodP n l
  | [], _ => by simp [prodP]
  | p :: l, h => by
    obtain ⟨h3, hd⟩ := h p (by simp)
    have ih := three_pow hn l fun q hq => h q (by simp [hq])
    have hv : vl n p ≠ 0 := fun e => (vl_zero_iff (by omega) hn).1 e hd
    have h1 := pow_mono (show 1 ≤ p by omega) (show 1 ≤ vl n p by omega)
    rw [Int.pow_succ, Int.pow_zero, Int.one_mul] at h1
    have hpos := pow_pos' (show (1 : Int) ≤ 3 by omega) l.length
    have := Int.mul_le_mul (show 3 ≤ p ^ vl n p by omega) ih (by omega) (by omega)
    rw [prodP, List.length_cons, Int.pow_succ]; omega
theorem oddL_few {n : Int} (hn : n ≠ 0) (hb : n.natAbs ≤ 5000) : (oddL (primesL n)).length ≤ 7 := by
  have hm : ∀ p ∈ oddL (primesL n), Pr p ∧ p ∣ n ∧ 3 ≤ p := fun p hp => by
    have := mem_oddL.1 hp
    have h2 := (mem_primesL hn).1 this.1
    exact ⟨h2.1, h2.2, by omega⟩
  have h1 := three_pow hn (oddL (primesL n)) fun p hp => ⟨(hm p hp).2.2, (hm p hp).2.1⟩
  have hs : (oddL (primesL n)).Pairwise (· < ·) := by unfold oddL; exact List.Pairwise.filter _ (primesL_sorted hn)
  have hd := (prodP_dvd hn (oddL (primesL n)) (fun p hp => (hm p hp).1) hs).1
  have hle := Int.le_of_dvd (show (0 : Int) < n.natAbs by omega) (Int.dvd_natAbs.2 hd)
  rcases Nat.lt_or_ge 7 (oddL (primesL n)).length with h | h
  · have h2 := pow_mono (show (1 : Int) ≤ 3 by omega) (show 8 ≤ (oddL (primesL n)).length by omega)
    have h3 : (3 : Int) ^ 8 = 6561 := by decide
    omega
  · exact h
theorem placesN_len {n : Int} (hn : n ≠ 0) (hb : n.natAbs ≤ 5000) : (placesN n).length ≤ 9 := by
  have := oddL_few hn hb
  unfold placesN; simp only [List.length_cons]; omega
theorem placesN_pl {n p : Int} (hn : n ≠ 0) (hb : n.natAbs ≤ 5000) (hp : p ∈ placesN n) : Pl p ∧ p ≤ 5000 := by
  rcases (mem_placesN hn).1 hp with rfl | rfl | h
  · exact ⟨Or.inl rfl, by omega⟩
  · exact ⟨Or.inr pr_two, by omega⟩
  · have := Int.le_of_dvd (show (0 : Int) < n.natAbs by omega) (Int.dvd_natAbs.2 h.2)
    exact ⟨Or.inr h.1, by omega⟩
theorem lplacesOf_len (n : Int) : (lplacesOf n).length ≤ 9 := by
  unfold lplacesOf
  by_cases h : n ≠ 0 ∧ numB n = true
  · rw [if_pos h]
    have hn := numB_true.1 h.2
    have h1 := placesN_len h.1 (show n.natAbs ≤ 5000 by omega)
    have h2 : (lplaces n).length ≤ (placesN n).length := List.length_filter_le ..
    omega
  · rw [if_neg h]; simp
theorem lplaces_nil {n : Int} (hn : n ≠ 0) : lplaces n = [] ↔ ∃ k : Int, k * k = n := by
  rw [← square_lsq hn]
  unfold lplaces
  rw [List.filter_eq_nil_iff]
  constructor
  · intro h
    have hh : ∀ p, p ∈ placesN n → lsq n p = true := fun p hp => by have := h p hp; simpa using this
    exact ⟨hh 0 ((mem_placesN hn).2 (Or.inl rfl)), fun p hp hd => hh p ((mem_placesN hn).2 (Or.inr (Or.inr ⟨hp, hd⟩)))⟩
  · intro h p hp
    have : lsq n p = true := by
      obtain ⟨k, hk⟩ := (square_lsq hn).1 h
      have hk0 : k ≠ 0 := by rintro rfl; exact hn (by rw [← hk]; rfl)
      have hpl : Pl p := by
        rcases (mem_placesN hn).1 hp with rfl | rfl | h
        · exact Or.inl rfl
        · exact Or.inr pr_two
        · exact Or.inr h.1
      rw [← hk]; exact lsq_mul_self hpl hk0
    simp [this]

/-- Of an ascending list a later one is not below the one before. -/
theorem sorted_step {L : List Int} (hs : L.Pairwise (· < ·)) {i : Nat} (h1 : 1 ≤ i) (h2 : i < L.length) : L.getD (i - 1) 0 < L.getD i 0 := by
  rw [List.getD_eq_getElem?_getD, List.getD_eq_getElem?_getD, List.getElem?_eq_getElem (by omega), List.getElem?_eq_getElem h2]
  exact List.pairwise_iff_getElem.1 hs (i - 1) i (by omega) h2 (by omega)

end Go.Proofs.LG
