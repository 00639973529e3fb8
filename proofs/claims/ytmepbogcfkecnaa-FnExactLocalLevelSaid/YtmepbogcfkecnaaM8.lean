/- Plain arithmetic: the product symbol, symbols at places, counting and trying triples. -/
import Derived.Test.YtmepbogcfkecnaaM7
set_option linter.unusedVariables false
set_option linter.unusedSimpArgs false
namespace Go.Proofs.LG
open Go.RowKit

theorem pow_small {n : Int} (h : n = 0 ∨ n = 1 ∨ n = -1) (i : Nat) : n ^ i = 0 ∨ n ^ i = 1 ∨ n ^ i = -1 := by
  induction i with
  | zero => right; left; simp
  | succ i ih =>
    rw [Int.pow_succ]
    rcases h with rfl | rfl | rfl <;> rcases ih with e | e | e <;> rw [e] <;> simp

theorem small_mul {a b : Int} (ha : a = 0 ∨ a = 1 ∨ a = -1) (hb : b = 0 ∨ b = 1 ∨ b = -1) : a * b = 0 ∨ a * b = 1 ∨ a * b = -1 := by
  rcases ha with rfl | rfl | rfl <;> rcases hb with rfl | rfl | rfl <;> simp

/-! ### The product of residue symbols -/
noncomputable def jacL (n m : Int) : List Int → Int
  | [] => 1
  | p :: l => leg n p ^ vl m p * jacL n m l
noncomputable def jac (n m : Int) : Int := jacL n m (primesL m)
noncomputable def jacOf (n m : Int) : Int := if numB n = true ∧ 1 ≤ m ∧ m ≤ 5000 ∧ m % 2 = 1 then jac n m else -2

theorem jacL_small (n m : Int) : ∀ l, jacL n m l = 0 ∨ jacL n m l = 1 ∨ jacL n m l = -1
  | [] => by right; left; rfl
  | p :: l => small_mul (pow_small (leg_cases n p) _) (jacL_small n m l)
theorem jac_small (n m : Int) : jac n m = 0 ∨ jac n m = 1 ∨ jac n m = -1 := jacL_small n m _

theorem odd_of_mem {m p : Int} (h1 : 1 ≤ m) (ho : m % 2 = 1) (hp : p ∈ primesL m) : Pr p ∧ p ∣ m ∧ p ≠ 2 := by
  have h := (mem_primesL (by omega)).1 hp
  refine ⟨h.1, h.2, ?_⟩
  rintro rfl
  have := h.2
  omega

/-! ### Symbols at a place -/
def half (e : Int) : Int := if e % 2 = 0 then 1 else -1
noncomputable def sym (a b p : Int) : Int :=
  if p = 0 then (if a < 0 ∧ b < 0 then -1 else 1)
  else if p = 2 then half ((un a 2 % 8 - 1) / 2 * ((un b 2 % 8 - 1) / 2) + (vl a 2 : Int) * ((un b 2 % 8 * (un b 2 % 8) - 1) / 8) + (vl b 2 : Int) * ((un a 2 % 8 * (un a 2 % 8) - 1) / 8))
  else half ((vl a p : Int) * (vl b p : Int) * ((p - 1) / 2)) * (if (vl b p : Int) % 2 = 1 then leg (un a p) p else 1) * (if (vl a p : Int) % 2 = 1 then leg (un b p) p else 1)

theorem half_cases (e : Int) : half e = 1 ∨ half e = -1 := by unfold half; split <;> simp
theorem half_congr {a b : Int} (h : a % 2 = b % 2) : half a = half b := by unfold half; rw [h]
theorem half_pow (e : Int) (he : 0 ≤ e) : (-1 : Int) ^ (e % 2).toNat = half e := by
  unfold half
  have h := Int.emod_two_eq e
  rcases h with h | h
  · rw [h, if_pos rfl]; rfl
  · rw [h, if_neg (by decide)]; rfl

noncomputable def symOf (a b p : Int) : Int := if a ≠ 0 ∧ b ≠ 0 ∧ numB a = true ∧ numB b = true ∧ plB p = true then sym a b p else 0

theorem mod16_8 (u : Int) : u % 16 % 8 = u % 8 := by omega

/-- (u * u - 1) / 8 for an odd u is of one parity for u % 16 and u % 8. -/
theorem eighth16 {u : Int} (h : u % 2 = 1) : (u % 16 * (u % 16) - 1) / 8 % 2 = (u % 8 * (u % 8) - 1) / 8 % 2 := by
  have h16 : u % 16 = 1 ∨ u % 16 = 3 ∨ u % 16 = 5 ∨ u % 16 = 7 ∨ u % 16 = 9 ∨ u % 16 = 11 ∨ u % 16 = 13 ∨ u % 16 = 15 := by omega
  have h8 : u % 8 = u % 16 % 8 := (mod16_8 u).symm
  rw [h8]
  rcases h16 with e | e | e | e | e | e | e | e <;> rw [e] <;> decide
theorem half16 {u : Int} (h : u % 2 = 1) : (u % 16 - 1) / 2 % 2 = (u % 8 - 1) / 2 % 2 := by omega

theorem mul_parity {a b c d : Int} (h1 : a % 2 = c % 2) (h2 : b % 2 = d % 2) : a * b % 2 = c * d % 2 := by
  rw [Int.mul_emod, h1, h2, ← Int.mul_emod]

theorem odd_sq8 {u : Int} (h : u % 2 = 1) : (u % 8 * (u % 8) - 1) % 8 = 0 := by
  have h8 : u % 8 = 1 ∨ u % 8 = 3 ∨ u % 8 = 5 ∨ u % 8 = 7 := by omega
  rcases h8 with e | e | e | e <;> rw [e] <;> decide

theorem vl_log {n p : Int} (hp : 2 ≤ p) (hn : n ≠ 0) (hb : n.natAbs ≤ 1000000000) : vl n p ≤ 40 := by
  have e := vl_eq hp hn
  have hu := un_ne_zero hp hn
  have e2 : n.natAbs = (p ^ vl n p).natAbs * (un n p).natAbs := by
    conv => lhs; rw [e]
    rw [Int.natAbs_mul]
  have h1 : 1 ≤ (un n p).natAbs := by omega
  have h2 := Nat.mul_le_mul_left (p ^ vl n p).natAbs h1
  rw [Int.natAbs_pow] at e2 h2
  have h3 : 2 ^ vl n p ≤ p.natAbs ^ vl n p := Nat.pow_le_pow_left (by omega) _
  rcases Nat.lt_or_ge 40 (vl n p) with h | h
  · have h4 : 2 ^ 41 ≤ 2 ^ vl n p := Nat.pow_le_pow_right (by omega) h
    have h5 : (2 : Nat) ^ 41 = 2199023255552 := by decide
    omega
  · exact h

/-! ### Sums and tries over a range -/
def cntI (P : Int → Bool) : Nat → Int → Int
  | 0, _ => 0
  | d + 1, i => (if P i = true then 1 else 0) + cntI P d (i + 1)
def sumI (F : Int → Int) : Nat → Int → Int
  | 0, _ => 0
  | d + 1, i => F i + sumI F d (i + 1)
def anyI (P : Int → Bool) : Nat → Int → Bool
  | 0, _ => false
  | d + 1, i => P i || anyI P d (i + 1)

theorem cntI_bd (P : Int → Bool) : ∀ d i, 0 ≤ cntI P d i ∧ cntI P d i ≤ d
  | 0, i => by simp [cntI]
  | d + 1, i => by
    have := cntI_bd P d (i + 1)
    rw [cntI]; split <;> omega
theorem sumI_bd {F : Int → Int} {B : Int} (h : ∀ i, 0 ≤ F i ∧ F i ≤ B) : ∀ (d : Nat) i, 0 ≤ sumI F d i ∧ sumI F d i ≤ d * B
  | 0, i => by simp [sumI]
  | d + 1, i => by
    have h1 := sumI_bd h d (i + 1)
    have h2 := h i
    have e : ((d + 1 : Nat) : Int) * B = B + (d : Int) * B := by
      rw [Int.natCast_add, Int.add_mul]; simp [Int.add_comm]
    rw [sumI, e]; omega
theorem cntI_congr {P Q : Int → Bool} : ∀ {d : Nat} {i : Int}, (∀ y, i ≤ y → y < i + d → P y = Q y) → cntI P d i = cntI Q d i
  | 0, i, h => rfl
  | d + 1, i, h => by
    rw [cntI, cntI, h i (by omega) (by omega), cntI_congr fun y h1 h2 => h y (by omega) (by omega)]
theorem sumI_congr {F G : Int → Int} : ∀ {d : Nat} {i : Int}, (∀ y, i ≤ y → y < i + d → F y = G y) → sumI F d i = sumI G d i
  | 0, i, h => rfl
  | d + 1, i, h => by
    rw [sumI, sumI, h i (by omega) (by omega), sumI_congr fun y h1 h2 => h y (by omega) (by omega)]
theorem anyI_congr {P Q : Int → Bool} : ∀ {d : Nat} {i : Int}, (∀ y, i ≤ y → y < i + d → P y = Q y) → anyI P d i = anyI Q d i
  | 0, i, h => rfl
  | d + 1, i, h => by
    rw [anyI, anyI, h i (by omega) (by omega), anyI_congr fun y h1 h2 => h y (by omega) (by omega)]
theorem cnt_any (P : Int → Bool) : ∀ d i, decide (cntI P d i > 0) = anyI P d i
  | 0, i => by simp [cntI, anyI]
  | d + 1, i => by
    have := cnt_any P d (i + 1)
    have hb := cntI_bd P d (i + 1)
    rw [anyI, ← this, cntI]
    cases P i with
    | true => simp; omega
    | false => simp
theorem sum_any {F : Int → Int} {P : Int → Bool} {B : Int} (hB : ∀ i, 0 ≤ F i ∧ F i ≤ B) (h : ∀ i, decide (F i > 0) = P i) : ∀ d i, decide (sumI F d i > 0) = anyI P d i
  | 0, i => by simp [sumI, anyI]
  | d + 1, i => by
    have h1 := sum_any hB h d (i + 1)
    have h2 := sumI_bd hB d (i + 1)
    have h3 := hB i
    rw [anyI, ← h1, ← h i, sumI, Bool.eq_iff_iff, Bool.or_eq_true, decide_eq_true_iff, decide_eq_true_iff, decide_eq_true_iff]
    omega

/-- One triple. -/
def W (a b p m x y z : Int) : Bool := (decide (x % p ≠ 0) || decide (y % p ≠ 0) || decide (z % p ≠ 0)) && decide ((z * z - a * x * x - b * y * y) % m = 0)
def cways (a b p m : Int) : Int := sumI (fun x => sumI (fun y => cntI (fun z => W a b p m x y z) m.toNat 0) m.toNat 0) m.toNat 0
def tries (a b p m : Int) : Bool := anyI (fun x => anyI (fun y => anyI (fun z => W a b p m x y z) m.toNat 0) m.toNat 0) m.toNat 0

theorem ways_any {a b p m : Int} : decide (cways a b p m > 0) = tries a b p m := by
  unfold cways tries
  refine sum_any (B := m.toNat * m.toNat) (fun i => ?_) (fun i => ?_) _ _
  · exact sumI_bd (fun j => cntI_bd _ _ _) _ _
  · exact sum_any (B := m.toNat) (fun j => cntI_bd _ _ _) (fun j => cnt_any _ _ _) _ _

theorem ways_bd {a b p m : Int} (h0 : 0 ≤ m) (h : m ≤ 1000) : 0 ≤ cways a b p m ∧ cways a b p m ≤ 1000000000 := by
  have h1 := sumI_bd (F := fun x => sumI (fun y => cntI (fun z => W a b p m x y z) m.toNat 0) m.toNat 0) (B := m.toNat * m.toNat) (fun i => sumI_bd (fun j => cntI_bd _ _ _) _ _) m.toNat 0
  have h2 := mul_bd (show (0 : Int) ≤ m.toNat by omega) (show (m.toNat : Int) ≤ 1000 by omega) (show (0 : Int) ≤ m.toNat by omega) (show (m.toNat : Int) ≤ 1000 by omega)
  have h3 := mul_bd (show (0 : Int) ≤ m.toNat by omega) (show (m.toNat : Int) ≤ 1000 by omega) h2.1 h2.2
  unfold cways
  omega

noncomputable def waysOf (a b p : Int) : Int := if a ≠ 0 ∧ b ≠ 0 ∧ numB a = true ∧ numB b = true ∧ prB p = true ∧ p ≤ 31 then cways a b p p else -1
noncomputable def moduloOf (a b p k : Int) : Bool :=
  decide (a ≠ 0) && decide (b ≠ 0) && numB a && numB b && prB p && decide (1 ≤ k ∧ k ≤ 5 ∧ p ^ k.toNat ≤ 32) && tries a b p (p ^ k.toNat)

/-! ### Roots by a power of a prime -/
noncomputable def lrootOf (n p k : Int) : Int × Bool := if numB n = true ∧ prB p = true ∧ 1 ≤ k ∧ k ≤ 12 ∧ p ^ k.toNat ≤ 5000 then two (rootS n (p ^ k.toNat)) else (0, false)

theorem pow_ge_two {p : Int} (hp : 2 ≤ p) (k : Nat) : (2 : Int) ^ k ≤ p ^ k := by
  induction k with
  | zero => simp
  | succ k ih =>
    rw [Int.pow_succ, Int.pow_succ]
    exact Int.mul_le_mul ih hp (by omega) (by have := pow_pos' (show 1 ≤ p by omega) k; omega)

theorem pow_mono {p : Int} (hp : 1 ≤ p) {a b : Nat} (h : a ≤ b) : p ^ a ≤ p ^ b := by
  obtain ⟨c, rfl⟩ := Nat.exists_eq_add_of_le h
  rw [Int.pow_add]
  have h1 := pow_pos' hp a
  have h2 := pow_pos' hp c
  have := Int.mul_le_mul_of_nonneg_left h2 (show 0 ≤ p ^ a by omega)
  omega

end Go.Proofs.LG
