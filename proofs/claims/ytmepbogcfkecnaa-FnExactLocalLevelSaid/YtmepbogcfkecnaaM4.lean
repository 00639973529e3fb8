/- Plain arithmetic: the list of the primes that divide a number; the core of a number. -/
import Derived.Test.YtmepbogcfkecnaaM3
set_option linter.unusedVariables false
set_option linter.unusedSimpArgs false
namespace Go.Proofs.LG

/-- Trial division from p on: the primes of n behind those of acc. -/
def pfl : Nat → Int → List Int → Int → List Int
  | 0, n, acc, _ => if n > 1 then acc ++ [n] else acc
  | f + 1, n, acc, p => if p * p ≤ n then (if n % p = 0 then pfl f (un n p) (acc ++ [p]) (p + 1) else pfl f n acc (p + 1)) else (if n > 1 then acc ++ [n] else acc)
def primesL (n : Int) : List Int := pfl n.natAbs n.natAbs [] 2

theorem un_pos {n p : Int} (hp : 2 ≤ p) (hn : 1 ≤ n) : 1 ≤ un n p ∧ un n p ≤ n := by
  have e := vl_eq hp (show n ≠ 0 by omega)
  have h1 := pow_pos' (show 1 ≤ p by omega) (vl n p)
  have h2 : 1 ≤ un n p := by
    rcases Int.lt_or_le 0 (un n p) with h | h
    · omega
    · have := Int.mul_nonneg (show 0 ≤ p ^ vl n p by omega) (show 0 ≤ -un n p by omega)
      rw [Int.mul_neg] at this
      omega
  refine ⟨h2, ?_⟩
  have := natAbs_un_le hp (show n ≠ 0 by omega)
  omega

theorem un_dvd {n p : Int} (hp : 2 ≤ p) (hn : n ≠ 0) : un n p ∣ n := by
  have e := vl_eq hp hn
  exact ⟨p ^ vl n p, by rw [Int.mul_comm]; exact e⟩

theorem pr_of_least {n p : Int} (hp : 2 ≤ p) (hd : p ∣ n) (h : ∀ d, 2 ≤ d → d < p → ¬ d ∣ n) : Pr p :=
  ⟨hp, fun d h1 h2 h3 => h d h1 h2 (Int.dvd_trans h3 hd)⟩

theorem prime_dvd_prime {p q : Int} (hp : Pr p) (hq : Pr q) (h : p ∣ q) : p = q := by
  have h1 := hp.1
  have h2 := hq.1
  have := Int.le_of_dvd (by omega) h
  by_cases e : p < q
  · exact absurd h (hq.2 p h1 e)
  · omega

theorem prime_dvd_pow {p q : Int} (hp : Pr p) (hq : Pr q) {k : Nat} (h : q ∣ p ^ k) : q = p :=
  prime_dvd_prime hq hp (hq.dvd_of_dvd_pow h)

theorem prime_dvd_split {n p q : Int} (hp : Pr p) (hq : Pr q) (hn : n ≠ 0) (hd : p ∣ n) : q ∣ n ↔ q = p ∨ q ∣ un n p := by
  have e := vl_eq hp.1 hn
  constructor
  · intro h
    rw [e] at h
    rcases hq.dvd_mul h with h | h
    · exact Or.inl (prime_dvd_pow hp hq h)
    · exact Or.inr h
  · rintro (h | h)
    · exact h ▸ hd
    · exact Int.dvd_trans h (un_dvd hp.1 hn)

theorem pfl_mem {q : Int} : ∀ (f : Nat) (n : Int) (acc : List Int) (p : Int), 1 ≤ n → 2 ≤ p → n < f + p → (∀ d, 2 ≤ d → d < p → ¬ d ∣ n) →
    (q ∈ pfl f n acc p ↔ q ∈ acc ∨ (Pr q ∧ q ∣ n)) := by
  intro f
  have last : ∀ (n : Int) (acc : List Int) (p : Int), 1 ≤ n → 2 ≤ p → n < p * p → (∀ d, 2 ≤ d → d < p → ¬ d ∣ n) →
      (q ∈ (if n > 1 then acc ++ [n] else acc) ↔ q ∈ acc ∨ (Pr q ∧ q ∣ n)) := by
    intro n acc p hn hp hlt hd
    by_cases h1 : n > 1
    · have hpr : Pr n := pr_of_none (by omega) p hlt (by omega) hd
      rw [if_pos h1, List.mem_append, List.mem_singleton]
      constructor
      · rintro (h | h)
        · exact Or.inl h
        · exact Or.inr ⟨h ▸ hpr, h ▸ Int.dvd_refl _⟩
      · rintro (h | ⟨h, h'⟩)
        · exact Or.inl h
        · exact Or.inr (prime_dvd_prime h hpr h')
    · rw [if_neg h1]
      constructor
      · exact Or.inl
      · rintro (h | ⟨h, h'⟩)
        · exact h
        · have := h.1
          have := Int.le_of_dvd (by omega) h'
          omega
  induction f with
  | zero =>
    intro n acc p hn hp hf hd
    rw [pfl]
    have := sq_gt hp (show n ≤ p by omega)
    exact last n acc p hn hp this hd
  | succ f ih =>
    intro n acc p hn hp hf hd
    rw [pfl]
    by_cases hle : p * p ≤ n
    · rw [if_pos hle]
      by_cases hm : n % p = 0
      · rw [if_pos hm]
        have hdv := Int.dvd_of_emod_eq_zero hm
        have hpr := pr_of_least hp hdv hd
        have hu := un_pos hp hn
        rw [ih (un n p) (acc ++ [p]) (p + 1) hu.1 (by omega) (by omega) ?_]
        · rw [List.mem_append, List.mem_singleton]
          constructor
          · rintro ((h | h) | ⟨h, h'⟩)
            · exact Or.inl h
            · exact Or.inr ⟨h ▸ hpr, h ▸ hdv⟩
            · exact Or.inr ⟨h, Int.dvd_trans h' (un_dvd hp (by omega))⟩
          · rintro (h | ⟨h, h'⟩)
            · exact Or.inl (Or.inl h)
            · rcases (prime_dvd_split hpr h (by omega) hdv).1 h' with e | e
              · exact Or.inl (Or.inr e)
              · exact Or.inr ⟨h, e⟩
        · intro d h1 h2 h3
          by_cases e : d = p
          · exact un_not_dvd hp (show n ≠ 0 by omega) (e ▸ h3)
          · exact hd d h1 (by omega) (Int.dvd_trans h3 (un_dvd hp (by omega)))
      · rw [if_neg hm]
        refine ih n acc (p + 1) hn (by omega) (by omega) fun d h1 h2 h3 => ?_
        by_cases e : d = p
        · exact hm (Int.emod_eq_zero_of_dvd (e ▸ h3))
        · exact hd d h1 (by omega) h3
    · rw [if_neg hle]
      exact last n acc p hn hp (by omega) hd

theorem pairwise_snoc {l : List Int} {x : Int} (h : l.Pairwise (· < ·)) (hx : ∀ y ∈ l, y < x) : (l ++ [x]).Pairwise (· < ·) := by
  rw [List.pairwise_append]
  exact ⟨h, by simp, fun a ha b hb => by rw [List.mem_singleton] at hb; subst hb; exact hx a ha⟩

theorem pfl_sorted : ∀ (f : Nat) (n : Int) (acc : List Int) (p : Int), 1 ≤ n → 2 ≤ p → (∀ d, 2 ≤ d → d < p → ¬ d ∣ n) → acc.Pairwise (· < ·) → (∀ y ∈ acc, y < p) →
    (pfl f n acc p).Pairwise (· < ·) := by
  intro f
  have last : ∀ (n : Int) (acc : List Int) (p : Int), 1 ≤ n → 2 ≤ p → (∀ d, 2 ≤ d → d < p → ¬ d ∣ n) → acc.Pairwise (· < ·) → (∀ y ∈ acc, y < p) →
      (if n > 1 then acc ++ [n] else acc).Pairwise (· < ·) := by
    intro n acc p hn hp hd hs ha
    by_cases h1 : n > 1
    · rw [if_pos h1]
      refine pairwise_snoc hs fun y hy => ?_
      have := ha y hy
      have : p ≤ n := by
        rcases Int.lt_or_le n p with h | h
        · exact absurd (Int.dvd_refl n) (hd n (by omega) h)
        · exact h
      omega
    · rw [if_neg h1]; exact hs
  induction f with
  | zero => intro n acc p hn hp hd hs ha; rw [pfl]; exact last n acc p hn hp hd hs ha
  | succ f ih =>
    intro n acc p hn hp hd hs ha
    rw [pfl]
    by_cases hle : p * p ≤ n
    · rw [if_pos hle]
      by_cases hm : n % p = 0
      · rw [if_pos hm]
        refine ih _ _ _ (un_pos hp hn).1 (by omega) ?_ (pairwise_snoc hs ha) ?_
        · intro d h1 h2 h3
          by_cases e : d = p
          · exact un_not_dvd hp (show n ≠ 0 by omega) (e ▸ h3)
          · exact hd d h1 (by omega) (Int.dvd_trans h3 (un_dvd hp (by omega)))
        · intro y hy
          rw [List.mem_append, List.mem_singleton] at hy
          rcases hy with h | h
          · have := ha y h; omega
          · omega
      · rw [if_neg hm]
        refine ih n acc (p + 1) hn (by omega) ?_ hs fun y hy => by have := ha y hy; omega
        intro d h1 h2 h3
        by_cases e : d = p
        · exact hm (Int.emod_eq_zero_of_dvd (e ▸ h3))
        · exact hd d h1 (by omega) h3
    · rw [if_neg hle]
      exact last n acc p hn hp hd hs ha

theorem mem_primesL {n q : Int} (hn : n ≠ 0) : q ∈ primesL n ↔ Pr q ∧ q ∣ n := by
  unfold primesL
  rw [pfl_mem n.natAbs n.natAbs [] 2 (by omega) (by omega) (by omega) (fun d h1 h2 => by omega), Int.dvd_natAbs]
  simp

theorem primesL_sorted {n : Int} (hn : n ≠ 0) : (primesL n).Pairwise (· < ·) :=
  pfl_sorted _ _ _ _ (by omega) (by omega) (fun d h1 h2 => by omega) (by simp) (by simp)

theorem primesL_le {n q : Int} (hn : n ≠ 0) (h : q ∈ primesL n) : 2 ≤ q ∧ q ≤ n.natAbs := by
  have h := (mem_primesL hn).1 h
  have h2 := h.1.1
  have := Int.le_of_dvd (show (0 : Int) < n.natAbs by omega) (Int.dvd_natAbs.2 h.2)
  omega

theorem sorted_length : ∀ (l : List Int) (a b : Int), l.Pairwise (· < ·) → (∀ x ∈ l, a ≤ x ∧ x ≤ b) → a ≤ b + 1 → (l.length : Int) ≤ b - a + 1
  | [], a, b, _, _, h => by simp; omega
  | x :: l, a, b, hs, h, h0 => by
    rw [List.pairwise_cons] at hs
    have hx := h x (by simp)
    have := sorted_length l (x + 1) b hs.2 (fun y hy => ⟨by have := hs.1 y hy; omega, (h y (by simp [hy])).2⟩) (by omega)
    rw [List.length_cons]; omega

theorem primesL_length {n : Int} (hn : n ≠ 0) : ((primesL n).length : Int) ≤ n.natAbs := by
  have := sorted_length (primesL n) 1 n.natAbs (primesL_sorted hn) (fun x hx => by have := primesL_le hn hx; omega) (by omega)
  omega

noncomputable def primesOfL (n : Int) : List Int := if n ≠ 0 ∧ numB n = true then primesL n else []
theorem primesOfL_length (n : Int) : (primesOfL n).length ≤ 5000 := by
  unfold primesOfL
  by_cases h : n ≠ 0 ∧ numB n = true
  · rw [if_pos h]
    have := numB_true.1 h.2
    have := primesL_length h.1
    omega
  · rw [if_neg h]; simp

/-! ### The core -/
def IsCore (n c r : Int) : Prop := n = c * (r * r) ∧ 1 ≤ r ∧ ∀ d, 2 ≤ d → ¬ d * d ∣ c

theorem core_step {c1 c2 r1 r2 : Int} (h : c1 * (r1 * r1) = c2 * (r2 * r2)) (hr1 : 1 ≤ r1) (hr2 : 1 ≤ r2) (hs : ∀ d, 2 ≤ d → ¬ d * d ∣ c2) : r1 ∣ r2 := by
  have hg : (Int.gcd r1 r2 : Int) ∣ r1 := Int.gcd_dvd_left ..
  have hg2 : (Int.gcd r1 r2 : Int) ∣ r2 := Int.gcd_dvd_right ..
  have hpos : 0 < Int.gcd r1 r2 := Int.gcd_pos_of_ne_zero_left _ (by omega)
  have hco : Int.gcd (r1 / Int.gcd r1 r2) (r2 / Int.gcd r1 r2) = 1 := by
    have := Int.gcd_ediv hg hg2
    rw [this, Int.natAbs_natCast, Nat.div_self hpos]
  obtain ⟨s1, e1⟩ := hg
  obtain ⟨s2, e2⟩ := hg2
  generalize hgg : (Int.gcd r1 r2 : Int) = g at *
  have hg0 : 0 < g := by omega
  rw [e1, e2, Int.mul_ediv_cancel_left _ (by omega), Int.mul_ediv_cancel_left _ (by omega)] at hco
  have hs1 : 1 ≤ s1 := by
    rcases Int.lt_or_le 0 s1 with h | h
    · omega
    · have := Int.mul_nonneg (show 0 ≤ g by omega) (show 0 ≤ -s1 by omega)
      rw [Int.mul_neg] at this; omega
  have heq : c1 * (s1 * s1) = c2 * (s2 * s2) := by
    rw [e1, e2] at h
    have h' : (g * g) * (c1 * (s1 * s1)) = (g * g) * (c2 * (s2 * s2)) := by grind
    exact Int.eq_of_mul_eq_mul_left (by have := Int.mul_pos hg0 hg0; omega) h'
  have hdv : s1 * s1 ∣ c2 := by
    have hd : s1 * s1 ∣ c2 * (s2 * s2) := ⟨c1, by rw [← heq, Int.mul_comm]⟩
    have hc : Int.gcd (s1 ^ 2) (s2 ^ 2) = 1 := Int.pow_gcd_pow_of_gcd_eq_one hco
    rw [pow_two', pow_two'] at hc
    have e : Int.gcd (s1 * s1) (c2 * (s2 * s2)) = Int.gcd (s1 * s1) c2 := Int.gcd_mul_left_right_of_gcd_eq_one hc
    have : (Int.gcd (s1 * s1) (c2 * (s2 * s2)) : Int) = s1 * s1 := Int.gcd_eq_left (by have := Int.mul_nonneg (show 0 ≤ s1 by omega) (show 0 ≤ s1 by omega); omega) hd
    rw [e] at this
    rw [← this]
    exact Int.gcd_dvd_right ..
  have : s1 = 1 := by
    by_cases h2 : 2 ≤ s1
    · exact absurd hdv (hs s1 h2)
    · omega
  rw [e1, this, e2, Int.mul_one]
  exact Int.dvd_mul_right ..

theorem core_unique {n c1 c2 r1 r2 : Int} (hn : n ≠ 0) (h1 : IsCore n c1 r1) (h2 : IsCore n c2 r2) : c1 = c2 ∧ r1 = r2 := by
  have d1 := core_step (h1.1.symm.trans h2.1) h1.2.1 h2.2.1 h2.2.2
  have d2 := core_step (h2.1.symm.trans h1.1) h2.2.1 h1.2.1 h1.2.2
  have e := Int.dvd_antisymm (by have := h1.2.1; omega) (by have := h2.2.1; omega) d1 d2
  refine ⟨?_, e⟩
  have h : c1 * (r1 * r1) = c2 * (r1 * r1) := by rw [← h1.1, h2.1, e]
  have hr := h1.2.1
  exact Int.eq_of_mul_eq_mul_right (by have := Int.mul_pos (show 0 < r1 by omega) (show 0 < r1 by omega); omega) h

theorem root_le {c r N : Int} (hc : c ≠ 0) (hr : 1 ≤ r) (h : N = c * (r * r)) : r ≤ N.natAbs ∧ c.natAbs ≤ N.natAbs := by
  have e : N.natAbs = c.natAbs * (r.natAbs * r.natAbs) := by rw [h, Int.natAbs_mul, Int.natAbs_mul]
  have h1 : 1 ≤ c.natAbs := by omega
  have h2 : 1 ≤ r.natAbs := by omega
  have a1 : r.natAbs * 1 ≤ r.natAbs * r.natAbs := Nat.mul_le_mul_left _ h2
  have a2 := Nat.mul_le_mul_right (r.natAbs * r.natAbs) h1
  have a3 := Nat.mul_le_mul_left c.natAbs (show 1 ≤ r.natAbs * r.natAbs by omega)
  omega

/-- A number that no square of a prime divides is divided by no square. -/
theorem squarefree_of_primes {c : Int} (h : ∀ q, Pr q → ¬ q * q ∣ c) : ∀ d, 2 ≤ d → ¬ d * d ∣ c := by
  intro d hd hdd
  obtain ⟨q, hq, hqd⟩ := prime_divisor d.toNat d hd (by omega)
  exact h q hq (Int.dvd_trans (Int.mul_dvd_mul hqd hqd) hdd)

end Go.Proofs.LG
