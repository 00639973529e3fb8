/- Plain arithmetic: roots lifted power by power, a least element, places of a number. -/
import Derived.Test.YtpcocojkhcokmaaM10
set_option linter.unusedVariables false
set_option linter.unusedSimpArgs false
namespace Go.Proofs.LG
open Go.RowKit

def pickL (n M s : Int) : List Int → List Int
  | [] => []
  | r :: l => if ((r + s) * (r + s) - n) % M = 0 then (r + s) :: pickL n M s l else pickL n M s l
def liftStep (n P p : Int) (roots : List Int) : Nat → Int → List Int
  | 0, _ => []
  | d + 1, c => pickL n (P * p) (c * P) roots ++ liftStep n P p roots d (c + 1)
def liftL (n p : Int) : Nat → List Int
  | 0 => [0]
  | i + 1 => liftStep n (p ^ i) p (liftL n p i) p.toNat 0

theorem mem_pickL {n M s x : Int} : ∀ {l : List Int}, x ∈ pickL n M s l ↔ ∃ r ∈ l, x = r + s ∧ (x * x - n) % M = 0
  | [] => by simp [pickL]
  | r :: l => by
    rw [pickL]
    split
    · rw [List.mem_cons, mem_pickL]
      constructor
      · rintro (h | ⟨r', h1, h2, h3⟩)
        · exact ⟨r, by simp, h, by rw [h]; assumption⟩
        · exact ⟨r', by simp [h1], h2, h3⟩
      · rintro ⟨r', h1, h2, h3⟩
        rcases List.mem_cons.1 h1 with h | h
        · exact Or.inl (h ▸ h2)
        · exact Or.inr ⟨r', h, h2, h3⟩
    · rw [mem_pickL]
      constructor
      · rintro ⟨r', h1, h2, h3⟩; exact ⟨r', by simp [h1], h2, h3⟩
      · rintro ⟨r', h1, h2, h3⟩
        rcases List.mem_cons.1 h1 with h | h
        · subst h; subst h2; contradiction
        · exact ⟨r', h, h2, h3⟩
theorem pickL_length {n M s : Int} : ∀ l : List Int, (pickL n M s l).length ≤ l.length
  | [] => by simp [pickL]
  | r :: l => by
    have := pickL_length (n := n) (M := M) (s := s) l
    rw [pickL]; split <;> simp <;> omega

theorem mem_liftStep {n P p x : Int} {roots : List Int} : ∀ {d : Nat} {c : Int}, x ∈ liftStep n P p roots d c ↔ ∃ t, c ≤ t ∧ t < c + d ∧ ∃ r ∈ roots, x = r + t * P ∧ (x * x - n) % (P * p) = 0
  | 0, c => by
    constructor
    · intro h; simp [liftStep] at h
    · rintro ⟨t, h1, h2, _⟩; omega
  | d + 1, c => by
    rw [liftStep, List.mem_append, mem_pickL, mem_liftStep]
    constructor
    · rintro (h | ⟨t, h1, h2, h3⟩)
      · exact ⟨c, by omega, by omega, h⟩
      · exact ⟨t, by omega, by omega, h3⟩
    · rintro ⟨t, h1, h2, h3⟩
      by_cases e : t = c
      · subst e; exact Or.inl h3
      · exact Or.inr ⟨t, by omega, by omega, h3⟩
theorem liftStep_length {n P p : Int} {roots : List Int} : ∀ (d : Nat) (c : Int), (liftStep n P p roots d c).length ≤ d * roots.length
  | 0, c => by simp [liftStep]
  | d + 1, c => by
    have h1 := liftStep_length (n := n) (P := P) (p := p) (roots := roots) d (c + 1)
    have h2 := pickL_length (n := n) (M := P * p) (s := c * P) roots
    rw [liftStep, List.length_append, Nat.succ_mul]; omega

theorem liftL_length {n p : Int} : ∀ i : Nat, (liftL n p i).length ≤ p.toNat ^ i
  | 0 => by simp [liftL]
  | i + 1 => by
    have h1 := liftStep_length (n := n) (P := p ^ i) (p := p) (roots := liftL n p i) p.toNat 0
    have h2 := Nat.mul_le_mul_left p.toNat (liftL_length (n := n) (p := p) i)
    rw [liftL, Nat.pow_succ, Nat.mul_comm (p.toNat ^ i)]; omega

theorem mem_liftL {n p : Int} (hp : 2 ≤ p) : ∀ {i : Nat} {x : Int}, x ∈ liftL n p i ↔ 0 ≤ x ∧ x < p ^ i ∧ p ^ i ∣ x * x - n
  | 0, x => by
    rw [liftL, List.mem_singleton, Int.pow_zero]
    constructor
    · rintro rfl; exact ⟨by omega, by omega, Int.one_dvd _⟩
    · rintro ⟨h1, h2, _⟩; omega
  | i + 1, x => by
    have hP := pow_pos' (show 1 ≤ p by omega) i
    rw [liftL, mem_liftStep, Int.pow_succ]
    generalize hq : p ^ i = P at hP
    have ih : ∀ {r : Int}, r ∈ liftL n p i ↔ 0 ≤ r ∧ r < P ∧ P ∣ r * r - n := by
      intro r; rw [← hq]; exact mem_liftL hp
    constructor
    · rintro ⟨t, h1, h2, r, hr, rfl, h3⟩
      have hr := ih.1 hr
      have ht : t ≤ p - 1 := by omega
      have h4 := Int.mul_nonneg h1 (show 0 ≤ P by omega)
      have h5 := Int.mul_le_mul_of_nonneg_right ht (show 0 ≤ P by omega)
      have e : (p - 1) * P = P * p - P := by grind
      exact ⟨by omega, by omega, Int.dvd_of_emod_eq_zero h3⟩
    · rintro ⟨h1, h2, h3⟩
      have b := emod_bd x (show 0 < P by omega)
      have e := Int.emod_add_mul_ediv x P
      have hd0 : 0 ≤ x / P := Int.ediv_nonneg h1 (by omega)
      have hdp : x / P < p := Int.ediv_lt_of_lt_mul (by omega) (by rw [Int.mul_comm]; exact h2)
      refine ⟨x / P, hd0, by omega, x % P, ih.2 ⟨b.1, b.2, ?_⟩, ?_, Int.emod_eq_zero_of_dvd h3⟩
      · have h4 : P ∣ x * x - n := Int.dvd_trans (Int.dvd_mul_right ..) h3
        have h5 : P ∣ x % P - x := Int.dvd_emod_sub_self
        have e2 : x % P * (x % P) - n = (x % P - x) * (x % P + x) + (x * x - n) := by grind
        rw [e2]; exact Int.dvd_add (Int.dvd_mul_of_dvd_left h5) h4
      · rw [Int.mul_comm]; omega

def minL (b : Int) : List Int → Int
  | [] => b
  | x :: l => minL (if b ≤ x then b else x) l
theorem minL_spec : ∀ (l : List Int) (b : Int), minL b l ≤ b ∧ (∀ x ∈ l, minL b l ≤ x) ∧ (minL b l = b ∨ minL b l ∈ l)
  | [], b => by simp [minL]
  | x :: l, b => by
    obtain ⟨h1, h2, h3⟩ := minL_spec l (if b ≤ x then b else x)
    rw [minL]
    by_cases h : b ≤ x
    · rw [if_pos h] at h1 h2 h3 ⊢
      refine ⟨h1, fun y hy => ?_, ?_⟩
      · rcases List.mem_cons.1 hy with rfl | hy
        · omega
        · exact h2 y hy
      · rcases h3 with h3 | h3
        · exact Or.inl h3
        · exact Or.inr (by simp [h3])
    · rw [if_neg h] at h1 h2 h3 ⊢
      refine ⟨by omega, fun y hy => ?_, ?_⟩
      · rcases List.mem_cons.1 hy with rfl | hy
        · omega
        · exact h2 y hy
      · rcases h3 with h3 | h3
        · rw [h3]; exact Or.inr (by simp)
        · exact Or.inr (by simp [h3])

/-- The least of all lifted roots is the least root. -/
theorem min_root {n p : Int} (hp : 2 ≤ p) {k : Nat} {b : Int} {l : List Int} (h : liftL n p k = b :: l) : rootS n (p ^ k) = some (minL b (b :: l)) := by
  have hP := pow_pos' (show 1 ≤ p by omega) k
  obtain ⟨h1, h2, h3⟩ := minL_spec (b :: l) b
  have hm : minL b (b :: l) ∈ liftL n p k := by
    rw [h]
    rcases h3 with h3 | h3
    · rw [h3]; simp
    · exact h3
  obtain ⟨m1, m2, m3⟩ := (mem_liftL hp).1 hm
  refine srch_eq m1 (by omega) (decide_eq_true (Int.emod_eq_emod_iff_emod_sub_eq_zero.2 (Int.emod_eq_zero_of_dvd m3))) fun y y1 y2 => decide_eq_false fun hy => ?_
  have : y ∈ liftL n p k := (mem_liftL hp).2 ⟨y1, by omega, Int.dvd_of_emod_eq_zero (Int.emod_eq_emod_iff_emod_sub_eq_zero.1 hy)⟩
  rw [h] at this
  have := h2 y this
  omega
theorem no_root {n p : Int} (hp : 2 ≤ p) {k : Nat} (h : liftL n p k = []) : rootS n (p ^ k) = none := by
  have hP := pow_pos' (show 1 ≤ p by omega) k
  cases hr : rootS n (p ^ k) with
  | none => rfl
  | some r =>
    obtain ⟨r1, r2, r3⟩ := rootS_spec hP hr
    have : r ∈ liftL n p k := (mem_liftL hp).2 ⟨r1, r2, r3⟩
    rw [h] at this; simp at this

/-- The places of a number. -/
def placesL (n : Int) : List Int := 0 :: 2 :: (primesL n).filter (fun p => decide (p > 2))

end Go.Proofs.LG
