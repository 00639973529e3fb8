/- Plain arithmetic: lifted roots, the product of a number's primes, squares, computed symbols. -/
import Derived.Test.YtmepbogcfkecnaaM8
set_option linter.unusedVariables false
set_option linter.unusedSimpArgs false
namespace Go.Proofs.LG
open Go.RowKit

/-! ### Lifting a root -/
theorem hensel {p n : Int} (hp : Pr p) (h2 : p ≠ 2) (hn : ¬ p ∣ n) (hr : IsRes p n) : ∀ k : Nat, ∃ x, p ^ (k + 1) ∣ x * x - n
  | 0 => by
    obtain ⟨x, hx⟩ := hr
    exact ⟨x, by rw [Int.pow_succ, Int.pow_zero, Int.one_mul]; exact hx⟩
  | k + 1 => by
    obtain ⟨x, c, hc⟩ := hensel hp h2 hn hr k
    have hpx : ¬ p ∣ x := by
      intro h
      apply hn
      have e : n = x * x - p ^ (k + 1) * c := by omega
      rw [e]
      refine Int.dvd_sub (Int.dvd_mul_of_dvd_left h) (Int.dvd_mul_of_dvd_left ?_)
      rw [Int.pow_succ]; exact Int.dvd_mul_left ..
    have hp2 : ¬ p ∣ 2 := fun h => h2 (prime_dvd_prime hp pr_two h)
    obtain ⟨b, d, hb⟩ := inverse hp (hp.not_dvd_mul hp2 hpx)
    refine ⟨x - p ^ (k + 1) * (c * b), -(c * d) + p ^ k * (c * b) * (c * b), ?_⟩
    rw [Int.pow_succ p (k + 1)]
    rw [Int.pow_succ p k] at hc ⊢
    generalize p ^ k = Q at hc ⊢
    grind

/-- A local square at a prime has a root up to its powers. -/
theorem lsq_root {n p : Int} (hp : Pr p) (hn : n ≠ 0) (h : lsq n p = true) (k : Nat) (hk : p ≠ 2 ∨ k ≤ 3) : ∃ x, p ^ k ∣ x * x - n := by
  have e := vl_eq hp.1 hn
  by_cases h2 : p = 2
  · subst h2
    rw [lsq_2] at h
    by_cases hv : vl n 2 % 2 = 0
    · rw [if_pos hv, decide_eq_true_iff] at h
      obtain ⟨j, hj⟩ : ∃ j, vl n 2 = j + j := ⟨vl n 2 / 2, by omega⟩
      refine ⟨2 ^ j, ?_⟩
      rw [hj, Int.pow_add] at e
      have h8 : (8 : Int) ∣ 2 ^ j * 2 ^ j - n := by
        conv => rhs; rw [e]
        have e2 : (2 : Int) ^ j * 2 ^ j - 2 ^ j * 2 ^ j * un n 2 = (2 ^ j * 2 ^ j) * (1 - un n 2) := by grind
        rw [e2]
        exact Int.dvd_mul_of_dvd_right (by omega)
      refine Int.dvd_trans ?_ h8
      have : k = 0 ∨ k = 1 ∨ k = 2 ∨ k = 3 := by omega
      rcases this with rfl | rfl | rfl | rfl <;> decide
    · rw [if_neg hv] at h; cases h
  · have h0 : p ≠ 0 := by have := hp.1; omega
    rw [lsq_p h0 h2] at h
    by_cases hv : vl n p % 2 = 0
    · rw [if_pos hv, decide_eq_true_iff] at h
      obtain ⟨j, hj⟩ : ∃ j, vl n p = j + j := ⟨vl n p / 2, by omega⟩
      have hl := leg_eq_one.1 h
      obtain ⟨x, hx⟩ := hensel hp h2 hl.1 hl.2 k
      rw [hj, Int.pow_add] at e
      refine ⟨p ^ j * x, ?_⟩
      have e2 : p ^ j * x * (p ^ j * x) - n = (p ^ j * p ^ j) * (x * x - un n p) := by
        conv => lhs; rw [e]
        grind
      rw [e2]
      refine Int.dvd_mul_of_dvd_right (Int.dvd_trans ?_ hx)
      rw [Int.pow_succ]; exact Int.dvd_mul_right ..
    · rw [if_neg hv] at h; cases h

theorem rootS_some {n m x : Int} (hm : 1 ≤ m) (h : m ∣ x * x - n) : ∃ r, rootS n m = some r := by
  have b := emod_bd x (show 0 < m by omega)
  obtain ⟨y, hy, _⟩ := srch_of (P := fun x => decide (x * x % m = n % m)) (d := m.toNat) (i := 0) (x := x % m) b.1 (by omega) (decide_eq_true (by
    rw [← Int.mul_emod]; exact Int.emod_eq_emod_iff_emod_sub_eq_zero.2 (Int.emod_eq_zero_of_dvd h)))
  exact ⟨y, hy⟩

theorem rootS_spec {n m r : Int} (hm : 1 ≤ m) (h : rootS n m = some r) : 0 ≤ r ∧ r < m ∧ m ∣ r * r - n := by
  obtain ⟨h1, h2, h3, h4⟩ := srch_some h
  exact ⟨h1, by omega, Int.dvd_of_emod_eq_zero (Int.emod_eq_emod_iff_emod_sub_eq_zero.1 (of_decide_eq_true h3))⟩

/-! ### Primes of a number -/
noncomputable def prodP (n : Int) : List Int → Int
  | [] => 1
  | p :: l => p ^ vl n p * prodP n l

theorem prodP_dvd {n : Int} (hn : n ≠ 0) : ∀ l : List Int, (∀ p ∈ l, Pr p) → l.Pairwise (· < ·) → prodP n l ∣ n ∧ ∀ q, Pr q → q ∣ prodP n l → q ∈ l
  | [], _, _ => ⟨Int.one_dvd _, fun q hq h => absurd h hq.not_dvd_one⟩
  | p :: l, hl, hs => by
    rw [List.pairwise_cons] at hs
    obtain ⟨⟨c, hc⟩, h2⟩ := prodP_dvd hn l (fun q hq => hl q (by simp [hq])) hs.2
    have hp := hl p (by simp)
    have hnp : ¬ p ∣ prodP n l := fun h => by
      have := hs.1 p (h2 p hp h); omega
    refine ⟨?_, fun q hq h => ?_⟩
    · have hc0 : c ≠ 0 := by rintro rfl; rw [Int.mul_zero] at hc; exact hn hc
      have hP0 : prodP n l ≠ 0 := by intro h; rw [h, Int.zero_mul] at hc; exact hn hc
      have hv := vl_mul hp hP0 hc0
      rw [← hc] at hv
      have hv0 := (vl_unit hp.1 hnp).1
      have hcv := vl_eq hp.1 hc0
      rw [hv0, Nat.zero_add] at hv
      rw [prodP, hv.1]
      refine ⟨un c p, ?_⟩
      conv => lhs; rw [hc, hcv]
      rw [Int.mul_assoc, Int.mul_left_comm]
    · rw [prodP] at h
      rcases hq.dvd_mul h with h | h
      · rw [prime_dvd_pow hp hq h]; simp
      · exact List.mem_cons_of_mem _ (h2 q hq h)

theorem prodP_pos {n : Int} : ∀ l : List Int, (∀ p ∈ l, Pr p) → 1 ≤ prodP n l
  | [], _ => by simp [prodP]
  | p :: l, h => by
    have h1 := prodP_pos (n := n) l (fun q hq => h q (by simp [hq]))
    have h2 := pow_pos' (show 1 ≤ p by have := (h p (by simp)).1; omega) (vl n p)
    have := Int.mul_le_mul h2 h1 (by omega) (by omega)
    rw [prodP]; omega

theorem vl_dvd {n p : Int} (hp : 2 ≤ p) (hn : n ≠ 0) {k : Nat} (h : k ≤ vl n p) : p ^ k ∣ n := by
  have e := vl_eq hp hn
  obtain ⟨c, hc⟩ := Nat.exists_eq_add_of_le h
  rw [hc, Int.pow_add, Int.mul_assoc] at e
  exact ⟨_, e⟩

theorem vl_prodP {n q : Int} (hq : Pr q) : ∀ l : List Int, (∀ p ∈ l, Pr p) → l.Pairwise (· < ·) → q ∈ l → vl (prodP n l) q = vl n q
  | [], _, _, h => by simp at h
  | p :: l, hl, hs, h => by
    rw [List.pairwise_cons] at hs
    have hp := hl p (by simp)
    have hl' : ∀ r ∈ l, Pr r := fun r hr => hl r (by simp [hr])
    have hpos := prodP_pos (n := n) l hl'
    have hpp := pow_pos' (show 1 ≤ p by have := hp.1; omega) (vl n p)
    have hnd : ∀ r, Pr r → r ∣ prodP n l → r ∈ l := by
      intro r hr
      have : ∀ l : List Int, (∀ p ∈ l, Pr p) → r ∣ prodP n l → r ∈ l := by
        intro l
        induction l with
        | nil => intro _ h; exact absurd h hr.not_dvd_one
        | cons a l ih =>
          intro ha h
          rw [prodP] at h
          rcases hr.dvd_mul h with h | h
          · rw [prime_dvd_pow (ha a (by simp)) hr h]; simp
          · exact List.mem_cons_of_mem _ (ih (fun x hx => ha x (by simp [hx])) h)
      exact this l hl'
    rw [prodP]
    rw [(vl_mul hq (show p ^ vl n p ≠ 0 by omega) (show prodP n l ≠ 0 by omega)).1]
    by_cases e : q = p
    · subst e
      have h1 : ¬ q ∣ prodP n l := fun h => by have := hs.1 q (hnd q hq h); omega
      rw [(vl_unit hq.1 h1).1, (vl_un_of hq.1 (n := q ^ vl n q) (k := vl n q) (u := 1) (by simp) hq.not_dvd_one).1]; rfl
    · have hm : q ∈ l := by
        rcases List.mem_cons.1 h with h | h
        · exact absurd h e
        · exact h
      have h1 : ¬ q ∣ p ^ vl n p := fun h => e (prime_dvd_pow hp hq h)
      rw [(vl_unit hq.1 h1).1, vl_prodP hq l hl' hs.2 hm, Nat.zero_add]

theorem prodP_all {n : Int} (hn : n ≠ 0) : prodP n (primesL n) = n.natAbs := by
  have hpr : ∀ p ∈ primesL n, Pr p := fun p h => ((mem_primesL hn).1 h).1
  have hs := primesL_sorted hn
  have hpos := prodP_pos (n := n) (primesL n) hpr
  obtain ⟨c, hc⟩ := (prodP_dvd hn (primesL n) hpr hs).1
  have hc0 : c ≠ 0 := by rintro rfl; rw [Int.mul_zero] at hc; exact hn hc
  have hu : c.natAbs = 1 := by
    refine Classical.byContradiction fun h1 => ?_
    obtain ⟨q, hq, hqc⟩ := prime_divisor c.natAbs c.natAbs (by omega) (by omega)
    have hqc := Int.dvd_natAbs.1 hqc
    have hqn : q ∣ n := by rw [hc]; exact Int.dvd_mul_of_dvd_right hqc
    have hm := (mem_primesL hn).2 ⟨hq, hqn⟩
    have hv := (vl_mul hq (show prodP n (primesL n) ≠ 0 by omega) hc0).1
    rw [← hc, vl_prodP hq _ hpr hs hm] at hv
    have : vl c q = 0 := by omega
    exact (vl_zero_iff hq.1 hc0).1 this hqc
  have e : n.natAbs = (prodP n (primesL n)).natAbs * c.natAbs := by
    conv => lhs; rw [hc]
    rw [Int.natAbs_mul]
  rw [hu, Nat.mul_one] at e
  omega

/-- A prime has one prime. -/
theorem primesL_prime {n : Int} (hn : Pr n) : primesL n = [n] := by
  have h0 : n ≠ 0 := by have := hn.1; omega
  have hm : ∀ x, x ∈ primesL n ↔ x = n := by
    intro x
    rw [mem_primesL h0]
    constructor
    · rintro ⟨h1, h2⟩; exact prime_dvd_prime h1 hn h2
    · rintro rfl; exact ⟨hn, Int.dvd_refl _⟩
  have hs := primesL_sorted h0
  generalize primesL n = l at hm hs
  match l with
  | [] => have := (hm n).2 rfl; simp at this
  | [x] => rw [(hm x).1 (by simp)]
  | x :: y :: l =>
    rw [List.pairwise_cons] at hs
    have h1 := (hm x).1 (by simp)
    have h2 := (hm y).1 (by simp)
    have := hs.1 y (by simp)
    omega

/-! ### Squares -/
theorem vl_sq {k p : Int} (hp : Pr p) (hk : k ≠ 0) : vl (k * k) p = 2 * vl k p := by
  rw [(vl_mul hp hk hk).1]; omega
theorem not_sq_mul {k p : Int} (hp : Pr p) (hk : k ≠ 0) : ¬ ∃ j : Int, j * j = k * k * p := by
  rintro ⟨j, hj⟩
  have hp0 : p ≠ 0 := by have := hp.1; omega
  have hj0 : j ≠ 0 := by
    rintro rfl
    rw [Int.zero_mul] at hj
    exact Int.mul_ne_zero (Int.mul_ne_zero hk hk) hp0 hj.symm
  have h1 := vl_sq hp hj0
  rw [hj, (vl_mul hp (Int.mul_ne_zero hk hk) hp0).1, vl_sq hp hk, (vl_self hp.1).1] at h1
  omega

theorem core_exists : ∀ (f : Nat) (n : Int), n ≠ 0 → n.natAbs ≤ f → ∃ c r, IsCore n c r
  | 0, n, hn, hf => by omega
  | f + 1, n, hn, hf => by
    by_cases h : ∃ d : Int, 2 ≤ d ∧ d * d ∣ n
    · obtain ⟨d, hd, m, hm⟩ := h
      have hm0 : m ≠ 0 := by rintro rfl; rw [Int.mul_zero] at hm; exact hn hm
      have hlt : m.natAbs < n.natAbs := by
        rw [hm, Int.natAbs_mul, Int.natAbs_mul]
        have h1 : 2 ≤ d.natAbs := by omega
        have h2 := Nat.mul_le_mul h1 h1
        have h3 := Nat.mul_le_mul_right m.natAbs h2
        omega
      obtain ⟨c, r, h1, h2, h3⟩ := core_exists f m hm0 (by omega)
      refine ⟨c, d * r, ?_, ?_, h3⟩
      · rw [hm, h1]; grind
      · have := Int.mul_le_mul (show 1 ≤ d by omega) h2 (by omega) (by omega); omega
    · exact ⟨n, 1, by simp, by omega, fun d hd hdd => h ⟨d, hd, hdd⟩⟩

theorem core_self {n c r : Int} (h : IsCore n c r) : IsCore c c 1 := ⟨by simp, by omega, h.2.2⟩
theorem core_square {n c r : Int} (hn : n ≠ 0) (h : IsCore n c r) : (∃ k : Int, k * k = n) ↔ c = 1 := by
  constructor
  · rintro ⟨k, hk⟩
    have hk0 : k ≠ 0 := by rintro rfl; rw [Int.zero_mul] at hk; exact hn hk.symm
    have h1 : IsCore n 1 k.natAbs := by
      refine ⟨?_, by omega, fun d hd hdd => ?_⟩
      · rw [Int.one_mul, ← Int.natCast_mul, Int.natAbs_mul_self, hk]
      · have := Int.le_of_dvd (by omega) hdd
        have := Int.mul_le_mul hd hd (by omega) (by omega)
        omega
    exact (core_unique hn h h1).1
  · intro e
    exact ⟨r, by rw [h.1, e, Int.one_mul]⟩

/-- What is a square at 0 and at each prime that divides it is a square. -/
theorem square_of_places {n : Int} (h0 : 0 < n) (h : ∀ p, Pr p → p ∣ n → vl n p % 2 = 0) : ∃ k : Int, k * k = n := by
  obtain ⟨c, r, hc⟩ := core_exists n.natAbs n (by omega) (Nat.le_refl _)
  rw [core_square (by omega) hc]
  obtain ⟨h1, h2, h3⟩ := hc
  have hrr : 1 ≤ r * r := by have := Int.mul_le_mul h2 h2 (by omega) (by omega); omega
  have hc0 : c ≠ 0 := by rintro rfl; rw [Int.zero_mul] at h1; omega
  have hcpos : 0 < c := by
    rcases Int.lt_or_le 0 c with h | h
    · exact h
    · have := Int.mul_nonneg (show 0 ≤ -c by omega) (show 0 ≤ r * r by omega)
      rw [Int.neg_mul] at this; omega
  refine Classical.byContradiction fun hne => ?_
  obtain ⟨q, hq, hqc⟩ := prime_divisor c.toNat c (by omega) (by omega)
  have hev := h q hq (by rw [h1]; exact Int.dvd_mul_of_dvd_left hqc)
  rw [h1, (vl_mul hq hc0 (by omega)).1, vl_sq hq (by omega)] at hev
  have hpos : vl c q ≠ 0 := fun e => (vl_zero_iff hq.1 hc0).1 e hqc
  have : 2 ≤ vl c q := by omega
  have hd := vl_dvd hq.1 hc0 this
  rw [pow_two'] at hd
  exact h3 q hq.1 hd

theorem lsq_of_square {p k : Int} (hp : Pl p) (hk : k ≠ 0) : lsq (k * k) p = true := lsq_mul_self hp hk
theorem square_lsq {n : Int} (hn : n ≠ 0) : (lsq n 0 = true ∧ ∀ p, Pr p → p ∣ n → lsq n p = true) ↔ ∃ k : Int, k * k = n := by
  constructor
  · rintro ⟨h0, h⟩
    rw [lsq_0, decide_eq_true_iff] at h0
    refine square_of_places h0 fun p hp hd => ?_
    have h1 := h p hp hd
    have hp0 : p ≠ 0 := by have := hp.1; omega
    unfold lsq at h1
    rw [if_neg hp0] at h1
    by_cases hv : vl n p % 2 = 0
    · exact hv
    · rw [if_neg hv] at h1; cases h1
  · rintro ⟨k, rfl⟩
    have hk : k ≠ 0 := by rintro rfl; exact hn (by simp)
    exact ⟨lsq_mul_self (Or.inl rfl) hk, fun p hp _ => lsq_mul_self (Or.inr hp) hk⟩

end Go.Proofs.LG
