/- Plain arithmetic: names as a group, computed symbols, reciprocity below 120, counts up to small primes. -/
import Derived.Test.YtmepbogcfkecnaaM9
set_option linter.unusedVariables false
set_option linter.unusedSimpArgs false
namespace Go.Proofs.LG
open Go.RowKit

/-! ### Names as a group -/
theorem one_mem (p : Int) : (1 : Int) ∈ namesL p := by
  unfold namesL; split
  · simp
  · split <;> simp
theorem nm_eq_iff {p a b : Int} (hp : Pl p) (ha : a ≠ 0) (hb : b ≠ 0) : nm a p = nm b p ↔ lsq (a * b) p = true := by
  rw [lsq_iff hp (Int.mul_ne_zero ha hb), cls_mul hp ha hb, mulc_eq_one (cls_ok hp ha) (cls_ok hp hb)]
  constructor
  · intro h; rw [← cls_nm hp ha, ← cls_nm hp hb, h]
  · intro h; unfold nm; rw [h]
theorem nm_eq_one {p a : Int} (hp : Pl p) (ha : a ≠ 0) : nm a p = 1 ↔ lsq a p = true := by
  have h1 : nm 1 p = 1 := nm_of_mem hp (one_mem p)
  have := nm_eq_iff hp ha (show (1 : Int) ≠ 0 by omega)
  rw [h1, Int.mul_one] at this
  exact this
theorem nm_mul_congr {p a b c : Int} (hp : Pl p) (ha : a ≠ 0) (hb : b ≠ 0) (hc : c ≠ 0) (h : nm a p = nm b p) : nm (a * c) p = nm (b * c) p := by
  have : cls p a = cls p b := by rw [← cls_nm hp ha, ← cls_nm hp hb, h]
  rw [nm_mul hp ha hc, nm_mul hp hb hc, this]
theorem nm_nm {p a : Int} (hp : Pl p) (ha : a ≠ 0) : nm (nm a p) p = nm a p := nm_of_mem hp (nm_mem hp ha)
theorem nm_names {p a b : Int} (hp : Pl p) (ha : a ≠ 0) (hb : b ≠ 0) : nm (nm a p * nm b p) p = nm (a * b) p := by
  have ha' := nm_ne hp ha
  have hb' := nm_ne hp hb
  rw [nm_mul_congr hp ha' ha hb' (nm_nm hp ha), Int.mul_comm, nm_mul_congr hp hb' hb ha (nm_nm hp hb), Int.mul_comm]
theorem nm_sq {p a k : Int} (hp : Pl p) (ha : a ≠ 0) (hk : k ≠ 0) : nm (a * (k * k)) p = nm a p := by
  have hkk := Int.mul_ne_zero hk hk
  rw [nm_eq_iff hp (Int.mul_ne_zero ha hkk) ha]
  have e : a * (k * k) * a = a * a * (k * k) := by grind
  rw [e, lsq_mul_sq hp (Int.mul_ne_zero ha ha) hk]
  exact lsq_mul_self hp ha
theorem nm_back {p a b : Int} (hp : Pl p) (ha : a ≠ 0) (hb : b ≠ 0) : nm (nm (a * b) p * b) p = nm a p := by
  have hab := Int.mul_ne_zero ha hb
  rw [nm_mul_congr hp (nm_ne hp hab) hab hb (nm_nm hp hab), Int.mul_assoc, nm_sq hp ha hb]
theorem nm_inj {p a b c : Int} (hp : Pl p) (ha : a ≠ 0) (hb : b ∈ namesL p) (hc : c ∈ namesL p) (h : nm (a * b) p = nm (a * c) p) : b = c := by
  have hb0 := mem_ne hp hb
  have hc0 := mem_ne hp hc
  rw [nm_eq_iff hp (Int.mul_ne_zero ha hb0) (Int.mul_ne_zero ha hc0)] at h
  have e : a * b * (a * c) = b * c * (a * a) := by grind
  rw [e, lsq_mul_sq hp (Int.mul_ne_zero hb0 hc0) ha] at h
  rw [← nm_of_mem hp hb, ← nm_of_mem hp hc]
  exact (nm_eq_iff hp hb0 hc0).2 h
theorem nm_self {p a : Int} (hp : Pl p) (ha : a ≠ 0) : nm (a * a) p = 1 := (nm_eq_one hp (Int.mul_ne_zero ha ha)).2 (lsq_mul_self hp ha)

theorem names_nodup {p : Int} (hp : Pl p) : (namesL p).Nodup := by
  rcases pl_cases hp with rfl | rfl | ⟨hq, h0, h2⟩
  · unfold namesL; rw [if_pos rfl]; decide
  · unfold namesL; rw [if_neg (by decide), if_pos rfl]; decide
  · unfold namesL; rw [if_neg h0, if_neg h2]
    obtain ⟨n1, n2, n3, n4⟩ := nr_spec hq h2
    have h3 := Int.mul_le_mul (show 1 ≤ p by omega) n1 (by omega) (by omega)
    have h4 : p * nrOf p ≠ p := fun e => by
      have := Int.mul_le_mul_of_nonneg_left n1 (show 0 ≤ p by omega); omega
    have h5 : p * nrOf p ≠ nrOf p := fun e => by
      have := Int.mul_le_mul_of_nonneg_right (show 2 ≤ p by omega) (show 0 ≤ nrOf p by omega); omega
    simp only [List.nodup_cons, List.mem_cons, List.not_mem_nil, or_false, not_or, not_false_eq_true, List.nodup_nil, and_true]
    refine ⟨⟨?_, ?_, ?_⟩, ⟨?_, ?_⟩, ?_⟩ <;> omega

/-! ### Computed symbols -/
def legC (n p : Int) : Int := if (n % p).toNat ^ ((p - 1) / 2).toNat % p.toNat + 1 = p.toNat then -1 else ((n % p).toNat ^ ((p - 1) / 2).toNat % p.toNat : Nat)
theorem leg_C {n p : Int} (hp : Pr p) (h2 : p ≠ 2) : leg n p = legC n p := by
  have h0 := hp.1
  obtain ⟨h, hh, h1⟩ := odd_prime hp h2
  have e1 : ((p - 1) / 2).toNat = h := by omega
  have b := emod_bd n (show 0 < p by omega)
  have key : (((n % p).toNat ^ h % p.toNat : Nat) : Int) = n ^ h % p := by
    rw [Int.natCast_emod, Int.natCast_pow, Int.toNat_of_nonneg b.1, Int.toNat_of_nonneg (by omega), emod_pow]
  have hm : leg n p % p = n ^ h % p := Int.emod_eq_emod_iff_emod_sub_eq_zero.2 (Int.emod_eq_zero_of_dvd (leg_euler hp h hh n))
  rw [← key] at hm
  unfold legC
  rw [e1]
  generalize (n % p).toNat ^ h % p.toNat = x at hm
  rcases leg_cases n p with h | h | h
  · rw [h, Int.zero_emod] at hm; rw [h, if_neg (by omega)]; omega
  · rw [h, Int.emod_eq_of_lt (by omega) (by omega)] at hm; rw [h, if_neg (by omega)]; omega
  · have e2 : (-1 : Int) % p = p - 1 := by
      rw [← Int.add_emod_right, Int.emod_eq_of_lt (by omega) (by omega)]; omega
    rw [h, e2] at hm; rw [h, if_pos (by omega)]

def jacLC (n m : Int) : List Int → Int
  | [] => 1
  | p :: l => legC n p ^ vl m p * jacLC n m l
def jacC (n m : Int) : Int := jacLC n m (primesL m)
theorem jac_C {n m : Int} (h1 : 1 ≤ m) (ho : m % 2 = 1) : jac n m = jacC n m := by
  unfold jac jacC
  have : ∀ l : List Int, (∀ p ∈ l, p ∈ primesL m) → jacL n m l = jacLC n m l := by
    intro l
    induction l with
    | nil => intro _; rfl
    | cons p l ih =>
      intro h
      obtain ⟨hp, _, h2⟩ := odd_of_mem h1 ho (h p (by simp))
      rw [jacL, jacLC, leg_C hp h2, ih fun q hq => h q (by simp [hq])]
  exact this _ fun _ h => h

theorem jacL_mul {a b m : Int} (h1 : 1 ≤ m) (ho : m % 2 = 1) : ∀ l : List Int, (∀ p ∈ l, p ∈ primesL m) → jacL (a * b) m l = jacL a m l * jacL b m l
  | [], _ => by simp [jacL]
  | p :: l, h => by
    obtain ⟨hp, _, h2⟩ := odd_of_mem h1 ho (h p (by simp))
    rw [jacL, jacL, jacL, leg_mul hp h2, jacL_mul h1 ho l fun q hq => h q (by simp [hq]), Int.mul_pow]
    grind
theorem jac_mul {a b m : Int} (h1 : 1 ≤ m) (ho : m % 2 = 1) : jac (a * b) m = jac a m * jac b m := jacL_mul h1 ho _ fun _ h => h
theorem jac_add {n m : Int} (h1 : 1 ≤ m) : jac (n + m) m = jac n m := by
  unfold jac
  have : ∀ l : List Int, (∀ p ∈ l, p ∈ primesL m) → jacL (n + m) m l = jacL n m l := by
    intro l
    induction l with
    | nil => intro _; rfl
    | cons p l ih =>
      intro h
      have hd := ((mem_primesL (show m ≠ 0 by omega)).1 (h p (by simp))).2
      rw [jacL, jacL, leg_congr (b := n) (by rw [Int.add_comm, Int.add_sub_cancel]; exact hd), ih fun q hq => h q (by simp [hq])]
  exact this _ fun _ h => h

theorem pow_zero_iff {t : Int} : ∀ {k : Nat}, k ≠ 0 → (t ^ k = 0 ↔ t = 0)
  | k + 1, _ => by
    constructor
    · intro h
      exact Classical.byContradiction fun hne => by
        have : ∀ j : Nat, t ^ j ≠ 0 := by
          intro j
          induction j with
          | zero => simp
          | succ j ih => rw [Int.pow_succ]; exact Int.mul_ne_zero ih hne
        exact this _ h
    · rintro rfl; rw [Int.pow_succ, Int.mul_zero]
theorem jac_zero {n m : Int} (h1 : 1 ≤ m) : jac n m = 0 ↔ (Int.gcd n m : Int) > 1 := by
  have hm0 : m ≠ 0 := by omega
  have key : ∀ l : List Int, (∀ p ∈ l, p ∈ primesL m) → (jacL n m l = 0 ↔ ∃ p ∈ l, p ∣ n) := by
    intro l
    induction l with
    | nil => intro _; simp [jacL]
    | cons p l ih =>
      intro h
      have hp := (mem_primesL hm0).1 (h p (by simp))
      have hv : vl m p ≠ 0 := fun e => (vl_zero_iff hp.1.1 hm0).1 e hp.2
      rw [jacL, Int.mul_eq_zero, pow_zero_iff hv, leg_eq_zero, ih fun q hq => h q (by simp [hq])]
      simp
  unfold jac
  rw [key _ fun _ h => h]
  have hg1 : (Int.gcd n m : Int) ∣ n := Int.gcd_dvd_left ..
  have hg2 : (Int.gcd n m : Int) ∣ m := Int.gcd_dvd_right ..
  have hpos : 0 < Int.gcd n m := Int.gcd_pos_of_ne_zero_right _ hm0
  constructor
  · rintro ⟨p, hp, hd⟩
    have hp := (mem_primesL hm0).1 hp
    have := Int.le_of_dvd (by omega) (Int.dvd_coe_gcd hd hp.2)
    have := hp.1.1
    omega
  · intro h
    obtain ⟨q, hq, hd⟩ := prime_divisor (Int.gcd n m) (Int.gcd n m) (by omega) (Int.le_refl _)
    exact ⟨q, (mem_primesL hm0).2 ⟨hq, Int.dvd_trans hd hg2⟩, Int.dvd_trans hd hg1⟩

/-! ### Computed tables -/
def supC (m : Int) : Bool := ((jacC (-1) m == 1) == (m % 4 == 1)) && ((jacC 2 m == 1) == (m % 8 == 1 || m % 8 == 7))
theorem sup_all : ((List.range 60).all fun i => supC (2 * (i : Int) + 1)) = true := by decide +kernel
def recC (n m : Int) : Bool := jacC m n == (if n % 4 = 3 ∧ m % 4 = 3 then -1 else 1) * jacC n m
theorem rec_all : ((List.range 60).all fun i => (List.range 60).all fun j => recC (2 * (i : Int) + 1) (2 * (j : Int) + 1)) = true := by decide +kernel
theorem rec_3969 : ((List.range 60).all fun j => recC 3969 (2 * (j : Int) + 1)) = true := by decide +kernel

end Go.Proofs.LG
