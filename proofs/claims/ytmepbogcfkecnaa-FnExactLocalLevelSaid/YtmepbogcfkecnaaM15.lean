/- Plain arithmetic: which rests are sums of so many squares; lists of bools that tell of rests. -/
import Derived.Test.YtmepbogcfkecnaaM11
set_option linter.unusedVariables false
set_option linter.unusedSimpArgs false
namespace Go.Proofs.LG
open Go.RowKit

def SQ (m i : Int) : Prop := ∃ y, 0 ≤ y ∧ y < m ∧ y * y % m = i
def SumN (m : Int) : Nat → Int → Prop
  | 0, i => i = 0
  | k + 1, i => ∃ a b, 0 ≤ a ∧ a < m ∧ 0 ≤ b ∧ b < m ∧ SumN m k a ∧ SQ m b ∧ (a + b) % m = i
/-- A list of bools, as long as the modulus, that tells of which rests P holds. -/
def IsL (m : Int) (L : List Bool) (P : Int → Prop) : Prop := (L.length : Int) = m ∧ ∀ i : Int, 0 ≤ i → i < m → (L.getD i.toNat false = true ↔ P i)

theorem IsL.congr {m : Int} {L : List Bool} {P Q : Int → Prop} (h : IsL m L P) (e : ∀ i, 0 ≤ i → i < m → (P i ↔ Q i)) : IsL m L Q :=
  ⟨h.1, fun i h0 h1 => (h.2 i h0 h1).trans (e i h0 h1)⟩
theorem IsL.zero {m : Int} (hm : 0 ≤ m) : IsL m (List.replicate m.toNat false) (fun _ => False) := by
  refine ⟨by rw [List.length_replicate]; omega, fun i h0 h1 => ?_⟩
  rw [List.getD_eq_getElem?_getD, List.getElem?_replicate]
  split <;> simp
theorem IsL.put {m j : Int} {L : List Bool} {P : Int → Prop} (h : IsL m L P) (h0 : 0 ≤ j) (h1 : j < m) : IsL m (L.set j.toNat true) (fun i => P i ∨ i = j) := by
  refine ⟨by rw [List.length_set]; exact h.1, fun i i0 i1 => ?_⟩
  have hl := h.1
  rw [List.getD_eq_getElem?_getD, List.getElem?_set]
  by_cases e : j.toNat = i.toNat
  · rw [if_pos e, if_pos (by omega)]
    constructor
    · intro _; right; omega
    · intro _; rfl
  · rw [if_neg e, ← List.getD_eq_getElem?_getD, h.2 i i0 i1]
    constructor
    · exact Or.inl
    · rintro (h | h)
      · exact h
      · exact absurd (by rw [h]) e

theorem SumN_one {m i : Int} (h0 : 0 ≤ i) (h1 : i < m) : SumN m 1 i ↔ SQ m i := by
  constructor
  · rintro ⟨a, b, a0, a1, b0, b1, rfl, hb, e⟩
    rw [Int.zero_add, Int.emod_eq_of_lt b0 b1] at e
    exact e ▸ hb
  · intro h
    exact ⟨0, i, by omega, by omega, h0, h1, rfl, h, by rw [Int.zero_add, Int.emod_eq_of_lt h0 h1]⟩

/-- The least number of squares whose sum leaves the rest m - 1. -/
def LevelIs (m : Int) (K : Nat) : Prop := 1 ≤ K ∧ K ≤ 4 ∧ SumN m K (m - 1) ∧ ∀ k, 1 ≤ k → k < K → ¬ SumN m k (m - 1)

theorem least_level {m : Int} : ∀ (n : Nat), (∃ K, 1 ≤ K ∧ K ≤ n ∧ SumN m K (m - 1)) → n ≤ 4 → ∃ K, LevelIs m K
  | 0, ⟨K, h1, h2, _⟩, _ => by omega
  | n + 1, ⟨K, h1, h2, h3⟩, h4 => by
    by_cases h : ∃ K, 1 ≤ K ∧ K ≤ n ∧ SumN m K (m - 1)
    · exact least_level n h (by omega)
    · have : K = n + 1 := by
        refine Classical.byContradiction fun hne => h ⟨K, h1, by omega, h3⟩
      exact ⟨K, h1, by omega, h3, fun k k1 k2 hk => h ⟨k, k1, by omega, hk⟩⟩

theorem level_odd {p : Int} (hp : Pr p) (h2 : p ≠ 2) : ∃ K, LevelIs p K := by
  have hp2 := hp.1
  obtain ⟨x, y, hd⟩ := two_squares hp h2
  have bx := emod_bd x (show 0 < p by omega)
  have byy := emod_bd y (show 0 < p by omega)
  have bxx := emod_bd (x * x) (show 0 < p by omega)
  have byy2 := emod_bd (y * y) (show 0 < p by omega)
  have s1 : SumN p 1 (x * x % p) := (SumN_one bxx.1 bxx.2).2 ⟨x % p, bx.1, bx.2, by rw [← Int.mul_emod]⟩
  have s2 : SQ p (y * y % p) := ⟨y % p, byy.1, byy.2, by rw [← Int.mul_emod]⟩
  refine least_level 2 ⟨2, by omega, by omega, x * x % p, y * y % p, bxx.1, bxx.2, byy2.1, byy2.2, s1, s2, ?_⟩ (by omega)
  rw [← Int.add_emod]
  have e : (x * x + y * y) % p = (p - 1) % p := by
    rw [Int.emod_eq_emod_iff_emod_sub_eq_zero]
    refine Int.emod_eq_zero_of_dvd ?_
    have : x * x + y * y - (p - 1) = (x * x + y * y + 1) - p := by omega
    rw [this]; exact Int.dvd_sub hd (Int.dvd_refl p)
  rw [e, Int.emod_eq_of_lt (by omega) (by omega)]
theorem level_16 : ∃ K, LevelIs 16 K := by
  have q9 : SQ 16 9 := ⟨3, by decide, by decide, by decide⟩
  have q4 : SQ 16 4 := ⟨2, by decide, by decide, by decide⟩
  have q1 : SQ 16 1 := ⟨1, by decide, by decide, by decide⟩
  have s1 : SumN 16 1 9 := (SumN_one (by omega) (by omega)).2 q9
  have s2 : SumN 16 2 13 := ⟨9, 4, by omega, by omega, by omega, by omega, s1, q4, by decide⟩
  have s3 : SumN 16 3 14 := ⟨13, 1, by omega, by omega, by omega, by omega, s2, q1, by decide⟩
  have s4 : SumN 16 4 15 := ⟨14, 1, by omega, by omega, by omega, by omega, s3, q1, by decide⟩
  exact least_level 4 ⟨4, by omega, by omega, s4⟩ (by omega)

end Go.Proofs.LG
