/- What the draws can be; an exclusive or of two numbers from 0 on. -/
import Derived.Laws.BitsLemmas
import Derived.Test.YtmepbogcfkecnaaM5
set_option linter.unusedVariables false
set_option linter.unusedSimpArgs false
namespace Go.Proofs.LG
open Go.RowKit

theorem xor_nonneg {a b : Int} (ha : 0 ≤ a) (ha' : a < 4611686018427387904) (hb : 0 ≤ b) (hb' : b < 4611686018427387904) : 0 ≤ Go.bits .xor .i64 a b := by
  obtain ⟨x, rfl⟩ := Int.eq_ofNat_of_zero_le ha
  obtain ⟨y, rfl⟩ := Int.eq_ofNat_of_zero_le hb
  have hx : x < 2 ^ 62 := by have : (2 : Nat) ^ 62 = 4611686018427387904 := by decide
                             omega
  have hy : y < 2 ^ 62 := by have : (2 : Nat) ^ 62 = 4611686018427387904 := by decide
                             omega
  have hxy := Nat.xor_lt_two_pow hx hy
  have h64 : (2 : Nat) ^ 62 < 2 ^ 64 := by decide
  have e62 : (2 : Nat) ^ 62 = 4611686018427387904 := by decide
  have hbits : IntKind.bits .i64 = 64 := rfl
  simp only [bits, hbits, BitVec.ofInt_natCast, BitVec.toNat_xor, BitVec.toNat_ofNat, Nat.mod_eq_of_lt (show x < 2 ^ 64 by omega), Nat.mod_eq_of_lt (show y < 2 ^ 64 by omega)]
  rw [IntKind.wrap_i64]
  generalize x ^^^ y = z at hxy
  omega

/-- The bytes that a reader holds. -/
def GB (b : List Int) : Prop := b.length ≤ 2000 ∧ ∀ x ∈ b, 0 ≤ x ∧ x ≤ 255

theorem u8_bd {x : Int} (h : (Lit.int .u8 x).wf = true) : 0 ≤ x ∧ x ≤ 255 := by
  simp only [Lit.wf, IntKind.min, IntKind.max, IntKind.signed, IntKind.bits, Bool.and_eq_true, decide_eq_true_eq] at h
  simpa using h

theorem i64_bd {x : Int} (h : (Lit.int .i64 x).wf = true) : -9223372036854775808 ≤ x ∧ x ≤ 9223372036854775807 := by
  simp only [Lit.wf, IntKind.min, IntKind.max, IntKind.signed, IntKind.bits, Bool.and_eq_true, decide_eq_true_eq] at h
  simpa using h

/-- A number as the draws give it. -/
def DN (n : Int) : Prop := n = 0 ∨ n = 5000 ∨ n = 5001 ∨ n = -5001 ∨ n = 4096 ∨ n = 3969 ∨ (1 ≤ n ∧ n ≤ 118) ∨ (-118 ≤ n ∧ n ≤ -1)
/-- A prime as the draws give it, or another integer. -/
def DP (p : Int) : Prop := p = 0 ∨ p = 1 ∨ p = 4 ∨ p = -3 ∨ p = 97 ∨ p = 9 ∨ p = 2 ∨ p = 3 ∨ p = 5 ∨ p = 7 ∨ p = 11 ∨ p = 13
/-- A number of a local draw. -/
def DL (n : Int) : Prop := DN n ∨ (1 ≤ n ∧ n ≤ 1377)

theorem DN.bd {n : Int} (h : DN n) : -5001 ≤ n ∧ n ≤ 5001 := by unfold DN at h; omega
theorem DL.bd {n : Int} (h : DL n) : -5001 ≤ n ∧ n ≤ 5001 := by
  rcases h with h | h
  · exact h.bd
  · omega
theorem DP.bd {p : Int} (h : DP p) : -3 ≤ p ∧ p ≤ 97 := by unfold DP at h; omega

theorem not_pr {p d : Int} (h1 : 2 ≤ d) (h2 : d < p) (h3 : d ∣ p) : ¬ Pr p := fun h => h.2 d h1 h2 h3

theorem DP.prime {p : Int} (h : DP p) (hp : Pr p) : p = 2 ∨ p = 3 ∨ p = 5 ∨ p = 7 ∨ p = 11 ∨ p = 13 ∨ p = 97 := by
  have h2 := hp.1
  unfold DP at h
  have h4 : p ≠ 4 := fun e => not_pr (p := 4) (d := 2) (by omega) (by omega) (by decide) (e ▸ hp)
  have h9 : p ≠ 9 := fun e => not_pr (p := 9) (d := 3) (by omega) (by omega) (by decide) (e ▸ hp)
  omega

theorem DP.place {p : Int} (h : DP p) (hp : Pl p) : p = 0 ∨ p = 2 ∨ p = 3 ∨ p = 5 ∨ p = 7 ∨ p = 11 ∨ p = 13 ∨ p = 97 := by
  rcases hp with hp | hp
  · exact Or.inl hp
  · exact Or.inr (h.prime hp)

end Go.Proofs.LG
