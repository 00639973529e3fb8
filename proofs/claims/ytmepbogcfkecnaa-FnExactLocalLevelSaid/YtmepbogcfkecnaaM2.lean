/- Plain arithmetic: the residue symbol of an odd prime, valuations and units. -/
import Derived.Test.YtmepbogcfkecnaaM1
set_option linter.unusedVariables false
set_option linter.unusedSimpArgs false
namespace Go.Proofs.LG

/-! ### The residue symbol -/
open Classical in
noncomputable def leg (n p : Int) : Int := if p ∣ n then 0 else if IsRes p n then 1 else -1

theorem leg_zero {n p : Int} (h : p ∣ n) : leg n p = 0 := by unfold leg; rw [if_pos h]
theorem leg_one {n p : Int} (h : ¬ p ∣ n) (hr : IsRes p n) : leg n p = 1 := by unfold leg; rw [if_neg h, if_pos hr]
theorem leg_neg {n p : Int} (h : ¬ p ∣ n) (hr : ¬ IsRes p n) : leg n p = -1 := by unfold leg; rw [if_neg h, if_neg hr]
theorem leg_cases (n p : Int) : leg n p = 0 ∨ leg n p = 1 ∨ leg n p = -1 := by
  unfold leg; split
  · simp
  · split <;> simp
theorem leg_eq_zero {n p : Int} : leg n p = 0 ↔ p ∣ n := by
  constructor
  · intro h
    refine Classical.byContradiction fun hc => ?_
    unfold leg at h
    rw [if_neg hc] at h
    split at h <;> simp at h
  · exact leg_zero
theorem leg_eq_one {n p : Int} : leg n p = 1 ↔ ¬ p ∣ n ∧ IsRes p n := by
  constructor
  · intro h
    unfold leg at h
    split at h
    · simp at h
    · split at h
      · exact ⟨by assumption, by assumption⟩
      · simp at h
  · exact fun h => leg_one h.1 h.2
theorem leg_eq_neg {n p : Int} : leg n p = -1 ↔ ¬ p ∣ n ∧ ¬ IsRes p n := by
  constructor
  · intro h
    unfold leg at h
    split at h
    · simp at h
    · split at h
      · simp at h
      · exact ⟨by assumption, by assumption⟩
  · exact fun h => leg_neg h.1 h.2

theorem isRes_congr {p a b : Int} (h : p ∣ a - b) : IsRes p a ↔ IsRes p b := by
  constructor
  · rintro ⟨x, hx⟩
    exact ⟨x, by have e : x * x - b = (x * x - a) + (a - b) := by omega
                 rw [e]; exact Int.dvd_add hx h⟩
  · rintro ⟨x, hx⟩
    exact ⟨x, by have e : x * x - a = (x * x - b) - (a - b) := by omega
                 rw [e]; exact Int.dvd_sub hx h⟩
theorem dvd_congr {p a b : Int} (h : p ∣ a - b) : p ∣ a ↔ p ∣ b := Int.dvd_iff_dvd_of_dvd_sub h
theorem leg_congr {p a b : Int} (h : p ∣ a - b) : leg a p = leg b p := by
  unfold leg
  by_cases h1 : p ∣ b
  · rw [if_pos h1, if_pos ((dvd_congr h).2 h1)]
  · rw [if_neg h1, if_neg (fun h' => h1 ((dvd_congr h).1 h'))]
    by_cases h2 : IsRes p b
    · rw [if_pos h2, if_pos ((isRes_congr h).2 h2)]
    · rw [if_neg h2, if_neg (fun h' => h2 ((isRes_congr h).1 h'))]
theorem leg_mod (n p : Int) : leg (n % p) p = leg n p := leg_congr Int.dvd_emod_sub_self

theorem odd_prime {p : Int} (hp : Pr p) (h2 : p ≠ 2) : ∃ h : Nat, p = 2 * (h : Int) + 1 ∧ 1 ≤ h := by
  have h0 := hp.1
  by_cases e : p % 2 = 0
  · exact absurd (Int.dvd_of_emod_eq_zero e) (hp.2 2 (by omega) (by omega))
  · exact ⟨((p - 1) / 2).toNat, by omega, by omega⟩

/-- Euler: the symbol is the power, up to the prime. -/
theorem leg_euler {p : Int} (hp : Pr p) (h : Nat) (hh : p = 2 * (h : Int) + 1) (a : Int) : p ∣ leg a p - a ^ h := by
  have h2 := hp.1
  by_cases ha : p ∣ a
  · rw [leg_zero ha]
    obtain ⟨n, rfl⟩ : ∃ n, h = n + 1 := ⟨h - 1, by omega⟩
    rw [Int.zero_sub, Int.pow_succ]
    exact Int.dvd_neg.2 (Int.dvd_mul_of_dvd_right ha)
  · by_cases hr : IsRes p a
    · rw [leg_one ha hr]
      have := Int.dvd_neg.2 (euler_yes hp h hh ha hr)
      have e : -(a ^ h - 1) = 1 - a ^ h := by omega
      rwa [e] at this
    · rw [leg_neg ha hr]
      have := Int.dvd_neg.2 (euler_no hp h hh ha hr)
      have e : -(a ^ h + 1) = -1 - a ^ h := by omega
      rwa [e] at this

theorem small_eq {p s t : Int} (hp : 3 ≤ p) (h : p ∣ s - t) (hs : -1 ≤ s) (hs' : s ≤ 1) (ht : -1 ≤ t) (ht' : t ≤ 1) : s = t := by
  by_cases e : s - t = 0
  · omega
  · exact absurd h (not_dvd_small e (by omega) (by omega))

theorem leg_of_power {p : Int} (hp : Pr p) (h : Nat) (hh : p = 2 * (h : Int) + 1) (a s : Int) (hs : -1 ≤ s) (hs' : s ≤ 1) (hd : p ∣ s - a ^ h) : s = leg a p := by
  have h2 := hp.1
  have := leg_euler hp h hh a
  refine small_eq (p := p) (by omega) ?_ hs hs' ?_ ?_
  · have e : s - leg a p = (s - a ^ h) - (leg a p - a ^ h) := by omega
    rw [e]; exact Int.dvd_sub hd this
  · rcases leg_cases a p with h | h | h <;> omega
  · rcases leg_cases a p with h | h | h <;> omega

theorem leg_mul {p : Int} (hp : Pr p) (h2 : p ≠ 2) (a b : Int) : leg (a * b) p = leg a p * leg b p := by
  obtain ⟨h, hh, h1⟩ := odd_prime hp h2
  refine (leg_of_power hp h hh (a * b) _ ?_ ?_ ?_).symm
  · rcases leg_cases a p with h | h | h <;> rcases leg_cases b p with h' | h' | h' <;> rw [h, h'] <;> decide
  · rcases leg_cases a p with h | h | h <;> rcases leg_cases b p with h' | h' | h' <;> rw [h, h'] <;> decide
  · have ha := leg_euler hp h hh a
    have hb := leg_euler hp h hh b
    rw [Int.mul_pow]
    have e : leg a p * leg b p - a ^ h * b ^ h = leg a p * (leg b p - b ^ h) + (leg a p - a ^ h) * b ^ h := by grind
    rw [e]
    exact Int.dvd_add (Int.dvd_mul_of_dvd_right hb) (Int.dvd_mul_of_dvd_left ha)

theorem leg_sq {p a : Int} (h : ¬ p ∣ a) (hp : Pr p) : leg (a * a) p = 1 := leg_one (hp.not_dvd_mul h h) ⟨a, by simp⟩
theorem leg_of_one {p : Int} (hp : Pr p) : leg 1 p = 1 := leg_one hp.not_dvd_one ⟨1, by simp⟩

/-- Whether a number is a square up to an odd prime is seen among 1 .. p / 2. -/
theorem isRes_half {p a : Int} (hp : Pr p) (h2 : p ≠ 2) (ha : ¬ p ∣ a) : IsRes p a ↔ ∃ x, 1 ≤ x ∧ x ≤ p / 2 ∧ x * x % p = a % p := by
  have h0 := hp.1
  obtain ⟨h, hh, h1⟩ := odd_prime hp h2
  constructor
  · rintro ⟨x, hx⟩
    have m0 := Int.emod_nonneg x (show p ≠ 0 by omega)
    have m1 := Int.emod_lt_of_pos x (show 0 < p by omega)
    have hxm : p ∣ (x % p) * (x % p) - a := by
      have e1 : p ∣ x % p - x := Int.dvd_emod_sub_self
      have e : (x % p) * (x % p) - a = (x % p - x) * (x % p + x) + (x * x - a) := by grind
      rw [e]; exact Int.dvd_add (Int.dvd_mul_of_dvd_left e1) hx
    generalize x % p = y at m0 m1 hxm
    have hy0 : y ≠ 0 := by
      rintro rfl
      apply ha
      have := Int.dvd_neg.2 hxm
      simpa using this
    by_cases hle : y ≤ p / 2
    · exact ⟨y, by omega, hle, Int.emod_eq_emod_iff_emod_sub_eq_zero.2 (Int.emod_eq_zero_of_dvd hxm)⟩
    · refine ⟨p - y, by omega, by omega, Int.emod_eq_emod_iff_emod_sub_eq_zero.2 (Int.emod_eq_zero_of_dvd ?_)⟩
      have e : (p - y) * (p - y) - a = p * (p - 2 * y) + (y * y - a) := by grind
      rw [e]; exact Int.dvd_add (Int.dvd_mul_right ..) hxm
  · rintro ⟨x, _, _, e⟩
    exact ⟨x, Int.dvd_of_emod_eq_zero (Int.emod_eq_emod_iff_emod_sub_eq_zero.1 e)⟩

theorem emod_pow (b m : Int) (k : Nat) : (b % m) ^ k % m = b ^ k % m :=
  Int.emod_eq_emod_iff_emod_sub_eq_zero.2 (Int.emod_eq_zero_of_dvd (pow_sub_dvd _ _ m Int.dvd_emod_sub_self k))
theorem pow_two' (b : Int) : b ^ 2 = b * b := by rw [Int.pow_succ, Int.pow_succ, Int.pow_zero, Int.one_mul]

/-! ### Valuations -/
/-- How often p divides n, and what is left. -/
def spl : Nat → Int → Int → Nat × Int
  | 0, n, _ => (0, n)
  | f + 1, n, p => if n % p = 0 then ((spl f (n / p) p).1 + 1, (spl f (n / p) p).2) else (0, n)
def vl (n p : Int) : Nat := (spl n.natAbs n p).1
def un (n p : Int) : Int := (spl n.natAbs n p).2

theorem div_smaller {n p : Int} (hp : 2 ≤ p) (hn : n ≠ 0) (h : n % p = 0) : n / p ≠ 0 ∧ (n / p).natAbs < n.natAbs ∧ n = p * (n / p) := by
  obtain ⟨c, rfl⟩ := Int.dvd_of_emod_eq_zero h
  have hp0 : p ≠ 0 := by omega
  rw [Int.mul_ediv_cancel_left _ hp0]
  have hc : c ≠ 0 := by rintro rfl; simp at hn
  refine ⟨hc, ?_, rfl⟩
  rw [Int.natAbs_mul]
  have h1 : 2 ≤ p.natAbs := by omega
  have h2 : 1 ≤ c.natAbs := by omega
  have := Nat.mul_le_mul_right c.natAbs h1
  omega

theorem spl_spec {p : Int} (hp : 2 ≤ p) : ∀ (f : Nat) (n : Int), n ≠ 0 → n.natAbs ≤ f → n = p ^ (spl f n p).1 * (spl f n p).2 ∧ ¬ p ∣ (spl f n p).2
  | 0, n, hn, hf => by omega
  | f + 1, n, hn, hf => by
    by_cases h : n % p = 0
    · obtain ⟨h1, h2, h3⟩ := div_smaller hp hn h
      obtain ⟨e, hd⟩ := spl_spec hp f (n / p) h1 (by omega)
      rw [spl, if_pos h]
      refine ⟨?_, hd⟩
      show n = p ^ ((spl f (n / p) p).1 + 1) * (spl f (n / p) p).2
      rw [Int.pow_succ, Int.mul_comm (p ^ _) p, Int.mul_assoc, ← e]
      exact h3
    · rw [spl, if_neg h]
      exact ⟨by simp, fun hd => h (Int.emod_eq_zero_of_dvd hd)⟩

theorem vl_spec {n p : Int} (hp : 2 ≤ p) (hn : n ≠ 0) : n = p ^ vl n p * un n p ∧ ¬ p ∣ un n p := spl_spec hp _ n hn (Nat.le_refl _)
theorem vl_eq {n p : Int} (hp : 2 ≤ p) (hn : n ≠ 0) : n = p ^ vl n p * un n p := (vl_spec hp hn).1
theorem un_not_dvd {n p : Int} (hp : 2 ≤ p) (hn : n ≠ 0) : ¬ p ∣ un n p := (vl_spec hp hn).2
theorem un_ne_zero {n p : Int} (hp : 2 ≤ p) (hn : n ≠ 0) : un n p ≠ 0 := fun h => un_not_dvd hp hn (h ▸ Int.dvd_zero p)

theorem pow_pos' {p : Int} (hp : 1 ≤ p) (n : Nat) : 1 ≤ p ^ n := by
  induction n with
  | zero => simp
  | succ n ih => rw [Int.pow_succ]; have := Int.mul_le_mul ih hp (by omega) (by omega); omega

theorem val_unique {p : Int} (hp : 2 ≤ p) : ∀ (a b : Nat) (u w : Int), ¬ p ∣ u → ¬ p ∣ w → p ^ a * u = p ^ b * w → a = b ∧ u = w
  | 0, 0, u, w, _, _, h => by simpa using h
  | 0, b + 1, u, w, hu, _, h => by
    rw [Int.pow_zero, Int.one_mul, Int.pow_succ] at h
    exact absurd ⟨p ^ b * w, by rw [h]; grind⟩ hu
  | a + 1, 0, u, w, _, hw, h => by
    rw [Int.pow_zero, Int.one_mul, Int.pow_succ] at h
    exact absurd ⟨p ^ a * u, by rw [← h]; grind⟩ hw
  | a + 1, b + 1, u, w, hu, hw, h => by
    have h' : p * (p ^ a * u) = p * (p ^ b * w) := by
      rw [Int.pow_succ, Int.pow_succ] at h; grind
    have := val_unique hp a b u w hu hw (Int.eq_of_mul_eq_mul_left (by omega) h')
    exact ⟨by omega, this.2⟩

theorem vl_un_of {n p : Int} (hp : 2 ≤ p) {k : Nat} {u : Int} (h : n = p ^ k * u) (hu : ¬ p ∣ u) : vl n p = k ∧ un n p = u := by
  have hn : n ≠ 0 := by
    rintro rfl
    have h1 := pow_pos' (show 1 ≤ p by omega) k
    rcases Int.mul_eq_zero.1 h.symm with h | h
    · omega
    · exact hu (h ▸ Int.dvd_zero p)
  obtain ⟨e, hd⟩ := vl_spec hp hn
  exact val_unique hp _ _ _ _ hd hu (e.symm.trans h)

theorem vl_mul {p a b : Int} (hp : Pr p) (ha : a ≠ 0) (hb : b ≠ 0) : vl (a * b) p = vl a p + vl b p ∧ un (a * b) p = un a p * un b p := by
  have h2 := hp.1
  refine vl_un_of h2 ?_ (hp.not_dvd_mul (un_not_dvd h2 ha) (un_not_dvd h2 hb))
  conv => lhs; rw [vl_eq h2 ha, vl_eq h2 hb]
  rw [Int.pow_add]; grind

theorem vl_unit {u p : Int} (hp : 2 ≤ p) (hu : ¬ p ∣ u) : vl u p = 0 ∧ un u p = u := vl_un_of hp (by simp) hu
theorem vl_self {p : Int} (hp : 2 ≤ p) : vl p p = 1 ∧ un p p = 1 := by
  refine vl_un_of hp (by rw [Int.pow_succ, Int.pow_zero, Int.one_mul, Int.mul_one]) fun h => ?_
  have := Int.le_of_dvd (by omega) h
  omega
theorem vl_zero_iff {n p : Int} (hp : 2 ≤ p) (hn : n ≠ 0) : vl n p = 0 ↔ ¬ p ∣ n := by
  constructor
  · intro h
    have e := vl_spec hp hn
    rw [h, Int.pow_zero, Int.one_mul] at e
    intro hd
    exact e.2 (by rw [← e.1]; exact hd)
  · intro h; exact (vl_unit hp h).1

theorem natAbs_un_le {n p : Int} (hp : 2 ≤ p) (hn : n ≠ 0) : (un n p).natAbs ≤ n.natAbs := by
  have e := vl_eq hp hn
  have h1 := pow_pos' (show 1 ≤ p by omega) (vl n p)
  have e2 : n.natAbs = (p ^ vl n p).natAbs * (un n p).natAbs := by
    conv => lhs; rw [e]
    rw [Int.natAbs_mul]
  rw [e2]
  have : 1 ≤ (p ^ vl n p).natAbs := by omega
  have := Nat.mul_le_mul_right (un n p).natAbs this
  omega

theorem vl_lt {n p : Int} (hp : 2 ≤ p) (hn : n ≠ 0) : vl n p < n.natAbs := by
  have e := vl_eq hp hn
  have hu := un_ne_zero hp hn
  have e2 : n.natAbs = (p ^ vl n p).natAbs * (un n p).natAbs := by
    conv => lhs; rw [e]
    rw [Int.natAbs_mul]
  have h3 : vl n p < (p ^ vl n p).natAbs := by
    rw [Int.natAbs_pow]
    exact Nat.lt_pow_self (by omega)
  have : 1 ≤ (un n p).natAbs := by omega
  have := Nat.mul_le_mul_left (p ^ vl n p).natAbs this
  omega

/-- A common name for the primes that are allowed. -/
noncomputable def prB (n : Int) : Bool := @decide (Pr n ∧ n ≤ 5000) (Classical.propDecidable _)
theorem prB_true {n : Int} : prB n = true ↔ Pr n ∧ n ≤ 5000 := by unfold prB; exact @decide_eq_true_iff _ (Classical.propDecidable _)
theorem prB_false {n : Int} : prB n = false ↔ ¬ (Pr n ∧ n ≤ 5000) := by unfold prB; exact @decide_eq_false_iff_not _ (Classical.propDecidable _)

/-- A prime by trying. -/
theorem pr_of_none {n : Int} (h2 : 2 ≤ n) (k : Int) (hk : n < k * k) (h0 : 0 ≤ k) (h : ∀ d, 2 ≤ d → d < k → ¬ d ∣ n) : Pr n := by
  refine ⟨h2, fun d hd1 hd2 hd => ?_⟩
  by_cases hlt : d < k
  · exact h d hd1 hlt hd
  · obtain ⟨c, rfl⟩ := hd
    have hc1 : 1 < c := by
      rcases Int.lt_or_le 1 c with h | h
      · exact h
      · have := Int.mul_le_mul_of_nonneg_left h (show 0 ≤ d by omega); omega
    have hck : c < k := by
      rcases Int.lt_or_le c k with h | h
      · exact h
      · have := Int.mul_le_mul (show k ≤ d by omega) h h0 (by omega); omega
    exact h c (by omega) hck (Int.dvd_mul_left ..)

def prC (n : Int) : Bool := decide (2 ≤ n) && (List.range n.toNat).all fun d => d < 2 || n % (d : Int) != 0
theorem prC_iff {n : Int} : prC n = true ↔ Pr n := by
  unfold prC Pr
  simp only [Bool.and_eq_true, decide_eq_true_eq, List.all_eq_true, List.mem_range, Bool.or_eq_true, bne_iff_ne, ne_eq]
  constructor
  · rintro ⟨h1, h⟩
    refine ⟨h1, fun d hd1 hd2 hd => ?_⟩
    have := h d.toNat (by omega)
    have e : (d.toNat : Int) = d := by omega
    rw [e] at this
    rcases this with h | h
    · omega
    · exact h (Int.emod_eq_zero_of_dvd hd)
  · rintro ⟨h1, h⟩
    refine ⟨h1, fun d hd => ?_⟩
    by_cases h2 : d < 2
    · exact Or.inl h2
    · exact Or.inr fun e => h d (by omega) (by omega) (Int.dvd_of_emod_eq_zero e)

/-- A number of at least 2 has a prime that divides it. -/
theorem prime_divisor : ∀ (f : Nat) (n : Int), 2 ≤ n → n ≤ f → ∃ q, Pr q ∧ q ∣ n
  | 0, n, h, hf => by omega
  | f + 1, n, h, hf => by
    by_cases hp : Pr n
    · exact ⟨n, hp, Int.dvd_refl n⟩
    · have : ∃ d : Int, 2 ≤ d ∧ d < n ∧ d ∣ n := by
        refine Classical.byContradiction fun hc => hp ⟨h, fun d h1 h2 h3 => hc ⟨d, h1, h2, h3⟩⟩
      obtain ⟨d, h1, h2, h3⟩ := this
      obtain ⟨q, hq, hd⟩ := prime_divisor f d h1 (by omega)
      exact ⟨q, hq, Int.dvd_trans hd h3⟩

end Go.Proofs.LG
