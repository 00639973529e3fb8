/- At every draw the program's CoreOf is the reference's; the core times the root part's square is the number, the core is its own core, and it is 1 exactly for squares.
No condition beyond the given statement. The printed functions are tied to plain arithmetic one by one; the law follows at the end. -/
import Derived.Test.YtnbjnlbaoogbmaaWSized
import Derived.Test.YtnbjnlbaoogbmaaPFnCorex3
import Derived.Test.YtnbjnlbaoogbmaaM9
set_option linter.unusedVariables false
set_option linter.unusedSimpArgs false
namespace Go.Proofs.Ytnbjnlbaoogbmaa
open Go.ChangeShapes Go.WideShapes
/-- The words' lemma on the length of a slice, under the name by which the row of this law calls it. -/
theorem PrintWords.sized_ints {H : Type} {enc : TypeId × Value → H} {P : Program} {W : World} {base : Nat} {spare : Nat → Bool} {held : Bool} {t e : TypeId} {k : IntKind} {a : Option Addr} {len cap : Nat} {d : DataW H} {ps : List MemPlace} {ts : List TypeId} {ds : List (DataW H)} {j : Nat}
    (hsz : (DataW.weightsEach P ts ds).all (· ≤ reachBytes) = true) (ht : ts[j]? = some t) (hd : ds[j]? = some d) (hu : P.underlying t = some (.slice e)) (he : P.underlying e = some (.int k)) (hc : P.cellsOf e = 1) {B : Nat} (hB : P.bytesOf e = B)
    (h : DataW.Trod enc P W base spare held t (.slice a len cap) d ps) : len * B ≤ 140737488351232 :=
  Go.Proofs.YtnbjnlbaoogbmaaW.PrintWords.sized_ints hsz ht hd hu he hc hB h
end Go.Proofs.Ytnbjnlbaoogbmaa
namespace Go.Proofs.Ytnbjnlbaoogbmaa.Pure
open Go.RowKit Go.Proofs.Ytnbjnlbaoogbmaa.PFnCore Go.Proofs.YtnbjnlbaoogbmaaW.PrintWords Go.Proofs.YtnbjnlbaoogbmaaW.PrintLast Go.Proofs.YtnbjnlbaoogbmaaW.PrintMore Go.Proofs.LG

theorem spec_l6In_eq (a b c : Int) : spec_l6In.f a b c = some (decide (b ≤ a ∧ a ≤ c)) := by
  unfold spec_l6In.f
  by_cases h : a ≥ b
  · rw [if_pos h]; congr 1; rw [decide_eq_decide]; omega
  · rw [if_neg h]; congr 1; symm; rw [decide_eq_false_iff_not]; omega
theorem spec_l1Number_eq (a : Int) : spec_l1Number.f a = some (numB a) := by
  unfold spec_l1Number.f; rw [spec_l6In_eq]; rfl
theorem impl_isNumber_eq (a : Int) : impl_isNumber.f a = some (numB a) := by
  unfold impl_isNumber.f numB
  by_cases h : a ≥ -5000
  · rw [if_pos h]; congr 1; rw [decide_eq_decide]; omega
  · rw [if_neg h]; congr 1; symm; rw [decide_eq_false_iff_not]; omega
theorem impl_split_l0 {p : Int} (hp : 2 ≤ p) (hp' : p ≤ 1000000000000000) : ∀ (f : Nat) (n : Int), n ≠ 0 → n.natAbs ≤ f → n.natAbs ≤ 1000000000000000 → ∀ c : Int, 0 ≤ c → c + f ≤ 2000000000000000 → Ev (fun k => impl_split.l0 k n p c) (c + (spl f n p).1, (spl f n p).2) := by
  intro f
  induction f with
  | zero => intro n hn hf; omega
  | succ f ih =>
    intro n hn hf hb c hc hcf
    rw [spl]
    by_cases h : n % p = 0
    · obtain ⟨h1, h2, h3⟩ := div_smaller hp hn h
      rw [if_pos h]
      have := ih (n / p) h1 (by omega) (by omega) (c + 1) (by omega) (by omega)
      have e : c + (((spl f (n / p) p).1 + 1 : Nat) : Int) = c + 1 + ((spl f (n / p) p).1 : Int) := by omega
      show Ev (fun k => impl_split.l0 k n p c) (c + (((spl f (n / p) p).1 + 1 : Nat) : Int), (spl f (n / p) p).2)
      rw [e]
      refine Ev.step (fun k => ?_) this
      rw [impl_split.l0, if_neg (by omega), if_pos (tm_zero.2 h), td_dvd h, w64 (by omega) (by omega), w64 (by omega) (by omega)]
    · rw [if_neg h]
      refine Ev.step (f := fun _ => some (c, n)) (fun k => ?_) ?_
      · rw [impl_split.l0, if_neg (by omega), if_neg (fun e => h (tm_zero.1 e))]
      · have e : c + ((0 : Nat) : Int) = c := by omega
        show Ev _ (c + ((0 : Nat) : Int), n)
        rw [e]; exact Ev.now _
theorem impl_split_ev {n p : Int} (hp : 2 ≤ p) (hp' : p ≤ 1000000000000000) (hn : n ≠ 0) (hb : n.natAbs ≤ 1000000000000000) : Ev (fun k => impl_split.f k n p) ((vl n p : Int), un n p) := by
  have := impl_split_l0 hp hp' n.natAbs n hn (Nat.le_refl _) hb 0 (by omega) (by omega)
  rw [Int.zero_add] at this
  exact this
theorem impl_squareRoot_l0 {n : Int} (hn : 0 ≤ n) (hn' : n ≤ 1000000) : ∀ (j : Nat) (x b : Int), 0 ≤ x → b = 2 ^ j → j ≤ 30 → x ≤ 1000000 → x * x ≤ n → n < (x + 2 * b) * (x + 2 * b) → ∃ r : Int, 0 ≤ r ∧ r * r ≤ n ∧ n < (r + 1) * (r + 1) ∧ Ev (fun k => impl_squareRoot.l0 k n x b) (r, r * r == n) := by
  intro j
  induction j with
  | zero =>
    intro x b h0 hb hj hx h1 h2
    have hb1 : b = 1 := by rw [hb]; rfl
    subst hb1
    have bd := mul_bd (show 0 ≤ x + 1 by omega) (show x + 1 ≤ 1000001 by omega) (show 0 ≤ x + 1 by omega) (show x + 1 ≤ 1000001 by omega)
    have bd2 := mul_bd h0 hx h0 hx
    by_cases hle : (x + 1) * (x + 1) ≤ n
    · have hx1 : x + 1 ≤ 1000000 := by
        by_cases h : x + 1 ≤ 1000000
        · exact h
        · have := mul_bd (show 0 ≤ (1000000 : Int) by omega) (show (1000000:Int) ≤ x + 1 by omega) (show 0 ≤ (1000000 : Int) by omega) (show (1000000:Int) ≤ x + 1 by omega)
          omega
      refine ⟨x + 1, by omega, hle, ?_, ?_⟩
      · have e : x + 2 * 1 = x + 1 + 1 := by omega
        rw [e] at h2; exact h2
      · refine Ev.step (f := fun k => impl_squareRoot.l0 k n (x + 1) 0) (fun k => ?_) (Ev.step (f := fun _ => some (x + 1, (x + 1) * (x + 1) == n)) (fun k => ?_) (Ev.now _))
        · rw [impl_squareRoot.l0, if_pos (by omega), w64 (x := x + 1) (by omega) (by omega), w64 (x := (x + 1) * (x + 1)) (by omega) (by omega), if_pos hle, half_one]
        · rw [impl_squareRoot.l0, if_neg (by omega), w64 (x := (x + 1) * (x + 1)) (by omega) (by omega)]
    · refine ⟨x, h0, h1, by omega, ?_⟩
      refine Ev.step (f := fun k => impl_squareRoot.l0 k n x 0) (fun k => ?_) (Ev.step (f := fun _ => some (x, x * x == n)) (fun k => ?_) (Ev.now _))
      · rw [impl_squareRoot.l0, if_pos (by omega), w64 (x := x + 1) (by omega) (by omega), w64 (x := (x + 1) * (x + 1)) (by omega) (by omega), if_neg hle, half_one]
      · rw [impl_squareRoot.l0, if_neg (by omega), w64 (x := x * x) (by omega) (by omega)]
  | succ j ih =>
    intro x b h0 hb hj hx h1 h2
    have hbp : b = 2 * 2 ^ j := by rw [hb, Int.pow_succ]; omega
    have hj1 : (1 : Int) ≤ 2 ^ j := pow_pos' (by omega) j
    have hj2 : (2 : Int) ^ j ≤ 1073741824 := by
      have h30 : ((2 : Nat) ^ j) ≤ 2 ^ 30 := Nat.pow_le_pow_right (by omega) (by omega)
      have e : ((2 ^ j : Nat) : Int) = (2 : Int) ^ j := by rw [Int.natCast_pow]; rfl
      rw [← e]
      have : (2 : Nat) ^ 30 = 1073741824 := by decide
      omega
    have bd := mul_bd (show 0 ≤ x + b by omega) (show x + b ≤ 3000000000 by omega) (show 0 ≤ x + b by omega) (show x + b ≤ 3000000000 by omega)
    have hhalf : Int.tdiv b 2 = 2 ^ j := by rw [hbp, Int.mul_tdiv_cancel_left _ (by omega)]
    by_cases hle : (x + b) * (x + b) ≤ n
    · have hx1 : x + b ≤ 1000000 := by
        by_cases h : x + b ≤ 1000000
        · exact h
        · have := mul_bd (show 0 ≤ (1000001 : Int) by omega) (show (1000001:Int) ≤ x + b by omega) (show 0 ≤ (1000001 : Int) by omega) (show (1000001:Int) ≤ x + b by omega)
          omega
      obtain ⟨r, a1, a2, a3, a4⟩ := ih (x + b) (2 ^ j) (by omega) rfl (by omega) hx1 hle (by
        have e : x + b + 2 * 2 ^ j = x + 2 * b := by omega
        rw [e]; exact h2)
      refine ⟨r, a1, a2, a3, Ev.step (fun k => ?_) a4⟩
      rw [impl_squareRoot.l0, if_pos (by omega), w64 (x := x + b) (by omega) (by omega), w64 (x := (x + b) * (x + b)) (by omega) (by omega), if_pos hle, hhalf, w64 (by omega) (by omega)]
    · obtain ⟨r, a1, a2, a3, a4⟩ := ih x (2 ^ j) h0 rfl (by omega) hx h1 (by rw [← hbp]; omega)
      refine ⟨r, a1, a2, a3, Ev.step (fun k => ?_) a4⟩
      rw [impl_squareRoot.l0, if_pos (by omega), w64 (x := x + b) (by omega) (by omega), w64 (x := (x + b) * (x + b)) (by omega) (by omega), if_neg hle, hhalf, w64 (by omega) (by omega)]
theorem impl_isSquare_ev {n : Int} (hn' : n ≤ 1000000) : Ev (fun k => impl_isSquare.f k n) (sqB n) := by
  unfold impl_isSquare.f impl_squareRoot.f
  by_cases h : n < 0
  · simp only [if_pos h, Option.bind_some]
    have : sqB n = false := by
      rw [sqB_false]
      rintro ⟨k, hk⟩
      have := sq_nonneg k
      omega
    rw [this]; exact Ev.now _
  · simp only [if_neg h]
    obtain ⟨r, a1, a2, a3, a4⟩ := impl_squareRoot_l0 (n := n) (by omega) hn' 30 0 1073741824 (by omega) (by decide) (by omega) (by omega) (by omega) (by omega)
    refine Ev.bind a4 ?_
    have : sqB n = (r * r == n) := by
      by_cases e : r * r = n
      · rw [sqB_true.2 ⟨r, e⟩, beq_iff_eq.2 e]
      · rw [beq_false_of_ne e, sqB_false]
        rintro ⟨k, hk⟩
        have hjj : ∃ y : Int, 0 ≤ y ∧ y * y = n := by
          by_cases h : 0 ≤ k
          · exact ⟨k, h, hk⟩
          · exact ⟨-k, by omega, by rw [Int.neg_mul_neg]; exact hk⟩
        obtain ⟨y, hy0, hy⟩ := hjj
        by_cases hyr : y ≤ r
        · by_cases hyr' : y = r
          · exact e (hyr' ▸ hy)
          · have h1 : (y + 1) * (y + 1) ≤ r * r := Int.mul_le_mul (by omega) (by omega) (by omega) (by omega)
            have h2 : (y + 1) * (y + 1) = y * y + 2 * y + 1 := by grind
            omega
        · have h1 : (r + 1) * (r + 1) ≤ y * y := Int.mul_le_mul (by omega) (by omega) (by omega) (by omega)
          omega
    rw [this]; exact Ev.now _
theorem impl_SquareIs_ev (n : Int) : Ev (fun k => impl_SquareIs.f k n) (squareOf n) := by
  unfold impl_SquareIs.f squareOf
  simp only [impl_isNumber_eq, Option.bind_some]
  by_cases h : numB n = true
  · simp only [if_pos h]
    have hn := numB_true.1 h
    rw [h, Bool.true_and]
    exact Ev.bind (impl_isSquare_ev (by omega)) (Ev.now _)
  · simp only [if_neg h]
    rw [Bool.not_eq_true] at h
    rw [h, Bool.false_and]; exact Ev.now _
theorem spec_l1Size_eq {n : Int} (h : -1000000000000 ≤ n) (h' : n ≤ 1000000000000) : spec_l1Size.f n = some (n.natAbs : Int) := by
  unfold spec_l1Size.f mx
  rw [w64 (by omega) (by omega)]
  congr 1
  split <;> omega
theorem impl_size_eq {n : Int} (h : -1000000000000 ≤ n) (h' : n ≤ 1000000000000) : impl_size.f n = some (n.natAbs : Int) := by
  unfold impl_size.f mx
  rw [w64 (by omega) (by omega)]
  congr 1
  split <;> omega
theorem impl_primesOf_l0 : ∀ (f : Nat) (n : Int) (acc : List Int) (p : Int), 1 ≤ n → n ≤ 1000000 → 2 ≤ p → p ≤ 1000002 → n < f + p → (acc.length : Int) ≤ p → Ev (fun k => impl_primesOf.l0 k n acc p) (pfl f n acc p) := by
  intro f
  have last : ∀ (n : Int) (acc : List Int) (p : Int), 1 ≤ n → n ≤ 1000000 → 2 ≤ p → p ≤ 1000002 → n < p * p → (acc.length : Int) ≤ p → Ev (fun k => impl_primesOf.l0 k n acc p) (if n > 1 then acc ++ [n] else acc) := by
    intro n acc p hn hn' hp hp' hlt hl
    have hb := mul_bd (show 0 ≤ p by omega) hp' (show 0 ≤ p by omega) hp'
    refine Ev.step (f := fun _ => some (if n > 1 then acc ++ [n] else acc)) (fun k => ?_) (Ev.now _)
    rw [impl_primesOf.l0, w64 (by omega) (by omega), if_neg (by omega)]
    by_cases h1 : n > 1
    · rw [if_pos h1, if_pos h1, if_pos (by omega)]
    · rw [if_neg h1, if_neg h1]
  induction f with
  | zero =>
    intro n acc p hn hn' hp hp' hf hl
    rw [pfl]
    exact last n acc p hn hn' hp hp' (sq_gt hp (by omega)) hl
  | succ f ih =>
    intro n acc p hn hn' hp hp' hf hl
    have hb := mul_bd (show 0 ≤ p by omega) hp' (show 0 ≤ p by omega) hp'
    rw [pfl]
    by_cases hle : p * p ≤ n
    · rw [if_pos hle]
      have hpn : p ≤ n := by have := sq_gt hp (Int.le_refl p); omega
      by_cases hm : n % p = 0
      · rw [if_pos hm]
        have hu := un_pos hp hn
        refine Ev.step (f := fun k => (impl_split.f k n p).bind fun bt => impl_primesOf.l0 k bt.2 (acc ++ [p]) (p + 1)) (fun k => ?_) (Ev.bind (impl_split_ev hp (by omega) (by omega) (by omega)) (ih (un n p) (acc ++ [p]) (p + 1) hu.1 (by omega) (by omega) (by omega) (by omega) (by simp; omega)))
        rw [impl_primesOf.l0, w64 (x := p * p) (by omega) (by omega), if_pos hle, if_neg (by omega), if_pos (tm_zero.2 hm), if_pos (by omega), w64 (x := p + 1) (by omega) (by omega)]
      · rw [if_neg hm]
        refine Ev.step (fun k => ?_) (ih n acc (p + 1) hn hn' (by omega) (by omega) (by omega) (by omega))
        rw [impl_primesOf.l0, w64 (x := p * p) (by omega) (by omega), if_pos hle, if_neg (by omega), if_neg (fun e => hm (tm_zero.1 e)), w64 (x := p + 1) (by omega) (by omega)]
    · rw [if_neg hle]
      exact last n acc p hn hn' hp hp' (by omega) hl
theorem impl_primesOf_ev {n : Int} (hn : n ≠ 0) (hb : n.natAbs ≤ 1000000) : Ev (fun k => impl_primesOf.f k n) (primesL n) := by
  unfold impl_primesOf.f
  simp only [impl_size_eq (n := n) (by omega) (by omega), Option.bind_some]
  exact impl_primesOf_l0 n.natAbs n.natAbs [] 2 (by omega) (by omega) (by omega) (by omega) (by omega) (by simp)
theorem spec_l1Core_l1 {N p : Int} (hN : N ≠ 0) (hb : N.natAbs ≤ 5000) (hp : 2 ≤ p) (hp' : p ≤ 5000)
    (next : ∀ c r : Int, c ≠ 0 → 1 ≤ r → N = c * (r * r) → (∀ e, 2 ≤ e → e < p + 1 → ¬ e * e ∣ c) → ∃ a b : Int, IsCore N a b ∧ Ev (fun k => spec_l1Core.l0 k c r (p + 1)) (a, b)) :
    ∀ (f : Nat) (c r : Int), c.natAbs ≤ f → c ≠ 0 → 1 ≤ r → N = c * (r * r) → (∀ e, 2 ≤ e → e < p → ¬ e * e ∣ c) → ∃ a b : Int, IsCore N a b ∧ Ev (fun k => spec_l1Core.l1 k c r p) (a, b) := by
  have hpp := mul_bd (show 0 ≤ p by omega) hp' (show 0 ≤ p by omega) hp'
  have hp4 := mul_bd (show (0 : Int) ≤ 2 by omega) hp (show (0 : Int) ≤ 2 by omega) hp
  intro f
  induction f with
  | zero => intro c r hf hc; omega
  | succ f ih =>
    intro c r hf hc hr he hs
    have hbd := root_le hc hr he
    by_cases h : c % (p * p) = 0
    · obtain ⟨h1, h2, h3⟩ := div_smaller (by omega) hc h
      have hrp := mul_bd (show 0 ≤ r by omega) (show r ≤ 5000 by omega) (show 0 ≤ p by omega) hp'
      have hr1 : 1 ≤ r * p := by have := Int.mul_le_mul hr (show 1 ≤ p by omega) (by omega) (by omega); omega
      obtain ⟨a, b, hcore, hev⟩ := ih (c / (p * p)) (r * p) (by omega) h1 hr1 (by
        rw [he]; conv => lhs; rw [h3]
        grind) (fun e e1 e2 e3 => hs e e1 e2 (by rw [h3]; exact Int.dvd_mul_of_dvd_right e3))
      refine ⟨a, b, hcore, Ev.step (fun k => ?_) hev⟩
      rw [spec_l1Core.l1, w64 (x := p * p) (by omega) (by omega), if_neg (by omega), if_pos (tm_zero.2 h), td_dvd h, w64 (x := c / (p * p)) (by omega) (by omega), w64 (x := r * p) (by omega) (by omega)]
    · obtain ⟨a, b, hcore, hev⟩ := next c r hc hr he (fun e e1 e2 e3 => by
        by_cases ee : e = p
        · subst ee; exact h (Int.emod_eq_zero_of_dvd e3)
        · exact hs e e1 (by omega) e3)
      refine ⟨a, b, hcore, Ev.step (fun k => ?_) hev⟩
      rw [spec_l1Core.l1, w64 (x := p * p) (by omega) (by omega), if_neg (by omega), if_neg (fun e => h (tm_zero.1 e)), w64 (x := p + 1) (by omega) (by omega)]
theorem spec_l1Core_l0 {N : Int} (hN : N ≠ 0) (hb : N.natAbs ≤ 5000) : ∀ (d : Nat) (p c r : Int), 2 ≤ p → p + d = 72 → c ≠ 0 → 1 ≤ r → N = c * (r * r) → (∀ e, 2 ≤ e → e < p → ¬ e * e ∣ c) →
    ∃ a b : Int, IsCore N a b ∧ Ev (fun k => spec_l1Core.l0 k c r p) (a, b) := by
  have last : ∀ (p c r : Int), 2 ≤ p → p ≤ 72 → c ≠ 0 → 1 ≤ r → N = c * (r * r) → (∀ e, 2 ≤ e → e < p → ¬ e * e ∣ c) → (c.natAbs : Int) < p * p → ∃ a b : Int, IsCore N a b ∧ Ev (fun k => spec_l1Core.l0 k c r p) (a, b) := by
    intro p c r hp hp' hc hr he hs hlt
    have hbd := root_le hc hr he
    have hpp := mul_bd (show 0 ≤ p by omega) hp' (show 0 ≤ p by omega) hp'
    refine ⟨c, r, ⟨he, hr, fun e e1 e2 => ?_⟩, Ev.step (f := fun _ => some (c, r)) (fun k => ?_) (Ev.now _)⟩
    · have h1 := Int.le_of_dvd (show (0 : Int) < c.natAbs by omega) (Int.dvd_natAbs.2 e2)
      by_cases h2 : e < p
      · exact hs e e1 h2 e2
      · have := Int.mul_le_mul (show p ≤ e by omega) (show p ≤ e by omega) (by omega) (by omega)
        omega
    · rw [spec_l1Core.l0, spec_l1Size_eq (by omega) (by omega), Option.bind_some, w64 (x := p * p) (by omega) (by omega), if_neg (by omega)]
  intro d
  induction d with
  | zero =>
    intro p c r hp hd hc hr he hs
    have hbd := root_le hc hr he
    have : p = 72 := by omega
    subst this
    exact last 72 c r hp (by omega) hc hr he hs (by omega)
  | succ d ih =>
    intro p c r hp hd hc hr he hs
    have hbd := root_le hc hr he
    have hpp := mul_bd (show 0 ≤ p by omega) (show p ≤ 72 by omega) (show 0 ≤ p by omega) (show p ≤ 72 by omega)
    by_cases hle : p * p ≤ (c.natAbs : Int)
    · obtain ⟨a, b, hcore, hev⟩ := spec_l1Core_l1 hN hb hp (by omega) (fun c r h1 h2 h3 h4 => ih (p + 1) c r (by omega) (by omega) h1 h2 h3 h4) c.natAbs c r (Nat.le_refl _) hc hr he hs
      refine ⟨a, b, hcore, Ev.step (fun k => ?_) hev⟩
      rw [spec_l1Core.l0, spec_l1Size_eq (by omega) (by omega), Option.bind_some, w64 (x := p * p) (by omega) (by omega), if_pos hle]
    · exact last p c r hp (by omega) hc hr he hs (by omega)
theorem spec_l1Core_ev {n : Int} (hn : n ≠ 0) (hb : n.natAbs ≤ 5000) : ∃ a b : Int, IsCore n a b ∧ Ev (fun k => spec_l1Core.f k n) (a, b) :=
  spec_l1Core_l0 hn hb 70 2 n 1 (by omega) (by omega) hn (by omega) (by omega) (fun e e1 e2 => by omega)
theorem spec_CoreOf_ev {n c r : Int} (hn : n ≠ 0) (hb : numB n = true) (h : IsCore n c r) : Ev (fun k => spec_CoreOf.f k n) (c, r, true) := by
  have hb' := numB_true.1 hb
  obtain ⟨a, b, hc, hev⟩ := spec_l1Core_ev hn (by omega)
  obtain ⟨rfl, rfl⟩ := core_unique hn h hc
  unfold spec_CoreOf.f
  simp only [spec_l1Number_eq, Option.bind_some, if_pos hb, if_neg hn]
  exact Ev.bind hev (Ev.now _)
theorem spec_CoreOf_no {n : Int} (h : ¬ (n ≠ 0 ∧ numB n = true)) : Ev (fun k => spec_CoreOf.f k n) (0, 0, false) := by
  unfold spec_CoreOf.f
  simp only [spec_l1Number_eq, Option.bind_some]
  by_cases hb : numB n = true
  · have hn : n = 0 := Classical.byContradiction fun hn => h ⟨hn, hb⟩
    simp only [if_pos hb, if_pos hn]; exact Ev.now _
  · simp only [if_neg hb]; exact Ev.now _
theorem impl_coreOf_l1 {L : List Int} {N p i : Int} (hN : N ≠ 0) (hb : N.natAbs ≤ 5000) (hp : 2 ≤ p) (hp' : p ≤ 5000) (hi : 0 ≤ i) (hi' : i ≤ 100000)
    (next : ∀ c r : Int, c ≠ 0 → 1 ≤ r → N = c * (r * r) → (∀ j : Nat, (j : Int) < i → ¬ rd L j * rd L j ∣ c) → ¬ p * p ∣ c → ∃ a b : Int, IsCore N a b ∧ Ev (fun k => impl_coreOf.l0 k c r L (L.length : Int) (i + 1)) (a, b)) :
    ∀ (f : Nat) (c r : Int), c.natAbs ≤ f → c ≠ 0 → 1 ≤ r → N = c * (r * r) → (∀ j : Nat, (j : Int) < i → ¬ rd L j * rd L j ∣ c) → ∃ a b : Int, IsCore N a b ∧ Ev (fun k => impl_coreOf.l1 k c r p L (L.length : Int) i) (a, b) := by
  have hpp := mul_bd (show 0 ≤ p by omega) hp' (show 0 ≤ p by omega) hp'
  have hp4 := mul_bd (show (0 : Int) ≤ 2 by omega) hp (show (0 : Int) ≤ 2 by omega) hp
  intro f
  induction f with
  | zero => intro c r hf hc; omega
  | succ f ih =>
    intro c r hf hc hr he hs
    have hbd := root_le hc hr he
    by_cases h : c % (p * p) = 0
    · obtain ⟨h1, h2, h3⟩ := div_smaller (by omega) hc h
      have hrp := mul_bd (show 0 ≤ r by omega) (show r ≤ 5000 by omega) (show 0 ≤ p by omega) hp'
      have hr1 : 1 ≤ r * p := by have := Int.mul_le_mul hr (show 1 ≤ p by omega) (by omega) (by omega); omega
      obtain ⟨a, b, hcore, hev⟩ := ih (c / (p * p)) (r * p) (by omega) h1 hr1 (by
        rw [he]; conv => lhs; rw [h3]
        grind) (fun j e2 e3 => hs j e2 (by rw [h3]; exact Int.dvd_mul_of_dvd_right e3))
      refine ⟨a, b, hcore, Ev.step (fun k => ?_) hev⟩
      rw [impl_coreOf.l1, w64 (x := p * p) (by omega) (by omega), if_neg (by omega), if_pos (tm_zero.2 h), td_dvd h, w64 (x := c / (p * p)) (by omega) (by omega), w64 (x := r * p) (by omega) (by omega)]
    · obtain ⟨a, b, hcore, hev⟩ := next c r hc hr he hs (fun e => h (Int.emod_eq_zero_of_dvd e))
      refine ⟨a, b, hcore, Ev.step (fun k => ?_) hev⟩
      rw [impl_coreOf.l1, w64 (x := p * p) (by omega) (by omega), if_neg (by omega), if_neg (fun e => h (tm_zero.1 e)), w64 (x := i + 1) (by omega) (by omega)]
theorem impl_coreOf_l0 {N : Int} (hN : N ≠ 0) (hb : N.natAbs ≤ 5000) : ∀ (d : Nat) (i c r : Int), 0 ≤ i → i + d = ((primesL N).length : Int) → c ≠ 0 → 1 ≤ r → N = c * (r * r) → (∀ j : Nat, (j : Int) < i → ¬ rd (primesL N) j * rd (primesL N) j ∣ c) →
    ∃ a b : Int, IsCore N a b ∧ Ev (fun k => impl_coreOf.l0 k c r (primesL N) ((primesL N).length : Int) i) (a, b) := by
  have hlen := primesL_length hN
  intro d
  induction d with
  | zero =>
    intro i c r hi hd hc hr he hs
    refine ⟨c, r, ⟨he, hr, squarefree_of_primes fun q hq hqq => ?_⟩, Ev.step (f := fun _ => some (c, r)) (fun k => ?_) (Ev.now _)⟩
    · have hqN : q ∣ N := by
        rw [he]; exact Int.dvd_mul_of_dvd_left (Int.dvd_trans (Int.dvd_mul_right ..) hqq)
      have hm : q ∈ primesL N := (mem_primesL hN).2 ⟨hq, hqN⟩
      obtain ⟨j, hj, e⟩ := List.getElem_of_mem hm
      refine hs j (by omega) ?_
      have : rd (primesL N) j = q := by
        unfold rd
        rw [Int.toNat_natCast, List.getD_eq_getElem?_getD, List.getElem?_eq_getElem hj, e]; rfl
      rw [this]; exact hqq
    · rw [impl_coreOf.l0, if_neg (by omega)]
  | succ d ih =>
    intro i c r hi hd hc hr he hs
    have hlt : i.toNat < (primesL N).length := by omega
    have hrd : rd (primesL N) i ∈ primesL N := by
      unfold rd
      rw [List.getD_eq_getElem?_getD, List.getElem?_eq_getElem hlt]
      exact List.getElem_mem hlt
    have hq := primesL_le hN hrd
    obtain ⟨a, b, hcore, hev⟩ := impl_coreOf_l1 (p := rd (primesL N) i) hN hb hq.1 (by omega) hi (by omega) (fun c r h1 h2 h3 h4 h5 => ih (i + 1) c r (by omega) (by omega) h1 h2 h3 (fun j hj => by
      by_cases e : (j : Int) = i
      · rw [e]; exact h5
      · exact h4 j (by omega))) c.natAbs c r (Nat.le_refl _) hc hr he hs
    refine ⟨a, b, hcore, Ev.step (fun k => ?_) hev⟩
    rw [impl_coreOf.l0, if_pos (by omega), if_pos (by omega), if_pos (by omega)]
theorem impl_coreOf_ev {n : Int} (hn : n ≠ 0) (hb : n.natAbs ≤ 5000) : ∃ a b : Int, IsCore n a b ∧ Ev (fun k => impl_coreOf.f k n) (a, b) := by
  obtain ⟨a, b, hc, hev⟩ := impl_coreOf_l0 hn hb (primesL n).length 0 n 1 (by omega) (by omega) hn (by omega) (by omega) (fun j hj => by omega)
  exact ⟨a, b, hc, Ev.bind (impl_primesOf_ev hn (by omega)) hev⟩
theorem impl_CoreOf_ev {n c r : Int} (hn : n ≠ 0) (hb : numB n = true) (h : IsCore n c r) : Ev (fun k => impl_CoreOf.f k n) (c, r, true) := by
  have hb' := numB_true.1 hb
  obtain ⟨a, b, hc, hev⟩ := impl_coreOf_ev hn (by omega)
  obtain ⟨rfl, rfl⟩ := core_unique hn h hc
  unfold impl_CoreOf.f
  simp only [impl_isNumber_eq, Option.bind_some, if_pos hb, if_neg hn]
  exact Ev.bind hev (Ev.now _)
theorem impl_CoreOf_no {n : Int} (h : ¬ (n ≠ 0 ∧ numB n = true)) : Ev (fun k => impl_CoreOf.f k n) (0, 0, false) := by
  unfold impl_CoreOf.f
  simp only [impl_isNumber_eq, Option.bind_some]
  by_cases hn : n = 0
  · simp only [if_pos hn]; exact Ev.now _
  · have hb : ¬ numB n = true := fun hb => h ⟨hn, hb⟩
    simp only [if_neg hn, if_neg hb]; exact Ev.now _
theorem rd_pre (p : List Int) (a : Int) (l : List Int) : rd (p ++ a :: l) (p.length : Int) = a := by
  unfold rd
  rw [Int.toNat_natCast, List.getD_eq_getElem?_getD, List.getElem?_append_right (Nat.le_refl _)]
  simp
theorem set_pre (p : List Int) (a : Int) (l : List Int) (c : Int) : (p ++ a :: l).set ((p.length : Int)).toNat c = p ++ c :: l := by
  rw [Int.toNat_natCast, List.set_append_right _ _ (Nat.le_refl _)]
  simp
theorem spec_l6Open_eq {l : List Int} (h : ∀ x ∈ l, (Lit.int .u8 x).wf = true) : ∃ b, GB b ∧ spec_l6Open.f l = some (b, 0) := by
  unfold spec_l6Open.f
  by_cases h1 : (l.length : Int) > 2000
  · rw [if_pos h1, if_pos (by omega)]
    exact ⟨l.take 2000, ⟨by simp; omega, fun x hx => u8_bd (h x (List.mem_of_mem_take hx))⟩, rfl⟩
  · rw [if_neg h1]
    exact ⟨l, ⟨by omega, fun x hx => u8_bd (h x hx)⟩, rfl⟩
theorem rd_bd {b : List Int} (hb : GB b) (i : Int) : 0 ≤ rd b i ∧ rd b i ≤ 255 := by
  unfold rd
  rw [List.getD_eq_getElem?_getD]
  cases h : b[i.toNat]? with
  | none => simp
  | some x => exact hb.2 x (List.mem_of_getElem? h)
theorem pick_ev {b : List Int} (hb : GB b) {p n : Int} (hp : 0 ≤ p) (hp' : p ≤ 1000) (hn : 1 ≤ n) (hn' : n ≤ 1000) : ∃ v, 0 ≤ v ∧ v < n ∧ Ev (fun k => spec_l6Rd_pick.f k b p n) (v, p + 1) := by
  have hl := hb.1
  have e1 : wrap64 (p + 1) = p + 1 := w64 (by omega) (by omega)
  have e2 : wrap64 (p + 1 - 1) = p := by rw [w64 (by omega) (by omega)]; omega
  unfold spec_l6Rd_pick.f
  simp only [if_neg (show ¬ n < 1 by omega), e1]
  by_cases h0 : b.length = 0
  · refine ⟨0, by omega, by omega, Ev.step (f := fun _ => some (0, p + 1)) (fun k => ?_) (Ev.now _)⟩
    rw [spec_l6Rd_pick.j0, if_pos (by simp [h0])]
  · have hL : ((b.length : Int) == 0) = false := by rw [beq_eq_false_iff_ne]; omega
    rw [hL]
    by_cases h1 : p < (b.length : Int)
    · have hr := rd_bd hb p
      have m := emod_bd (rd b p) (show 0 < n by omega)
      refine ⟨rd b p % n, m.1, m.2, Ev.step (f := fun _ => some (rd b p % n, p + 1)) (fun k => ?_) (Ev.now _)⟩
      rw [spec_l6Rd_pick.j0, if_neg (by simp), e2, if_pos h1, if_pos hp, if_neg (by omega), w64 (x := rd b p) (by omega) (by omega), tm hr.1]
    · have m1 := emod_bd p (show (0 : Int) < b.length by omega)
      have t1 : Int.tmod p (b.length : Int) = p % (b.length : Int) := tm hp
      have e7 : wrap64 (wrap64 (p * 7) + 3) = p * 7 + 3 := by rw [w64 (x := p * 7) (by omega) (by omega), w64 (by omega) (by omega)]
      have t2 : Int.tmod (p * 7 + 3) (b.length : Int) = (p * 7 + 3) % (b.length : Int) := tm (by omega)
      have m2 := emod_bd (p * 7 + 3) (show (0 : Int) < b.length by omega)
      have r1 := rd_bd hb (p % (b.length : Int))
      have r2 := rd_bd hb ((p * 7 + 3) % (b.length : Int))
      have d1 : Int.tdiv p (b.length : Int) = p / (b.length : Int) := Int.tdiv_eq_ediv_of_nonneg hp
      have d2 : 0 ≤ p / (b.length : Int) ∧ p / (b.length : Int) ≤ p := ⟨Int.ediv_nonneg hp (by omega), Int.ediv_le_self _ hp⟩
      have key : ∃ v, 0 ≤ v ∧ v < n ∧ ∀ k, spec_l6Rd_pick.j0 (k + 1) n false b (p + 1) = some (v, p + 1) := by
        generalize hq1 : rd b (p % (b.length : Int)) = q1 at r1
        generalize hq2 : rd b ((p * 7 + 3) % (b.length : Int)) = q2 at r2
        generalize hq3 : p / (b.length : Int) = q3 at d1 d2
        have hx0 : 0 ≤ Go.bits .xor .i64 (q1 * 131 + q2 * 1117 + p * 29 + q3 * 53) ((q1 * 131 + q2 * 1117 + p * 29 + q3 * 53) / 64) := xor_nonneg (by omega) (by omega) (by omega) (by omega)
        refine ⟨_, (emod_bd (Go.bits .xor .i64 (q1 * 131 + q2 * 1117 + p * 29 + q3 * 53) ((q1 * 131 + q2 * 1117 + p * 29 + q3 * 53) / 64)) (show 0 < n by omega)).1, (emod_bd _ (show 0 < n by omega)).2, fun k => ?_⟩
        rw [spec_l6Rd_pick.j0, if_neg (by simp), e2, if_neg h1, if_neg (by omega), t1, if_pos m1.1, if_pos m1.2, e7, t2, if_pos m2.1, if_pos m2.2, if_neg (by omega), hq1, hq2, d1,
          w64 (x := q1) (by omega) (by omega), w64 (x := q2) (by omega) (by omega), w64 (x := q1 * 131) (by omega) (by omega), w64 (x := q2 * 1117) (by omega) (by omega), w64 (x := q1 * 131 + q2 * 1117) (by omega) (by omega),
          w64 (x := p * 29) (by omega) (by omega), w64 (x := q1 * 131 + q2 * 1117 + p * 29) (by omega) (by omega), w64 (x := q3) (by omega) (by omega), w64 (x := q3 * 53) (by omega) (by omega),
          w64 (x := q1 * 131 + q2 * 1117 + p * 29 + q3 * 53) (by omega) (by omega),
          Int.tdiv_eq_ediv_of_nonneg (a := q1 * 131 + q2 * 1117 + p * 29 + q3 * 53) (by omega), w64 (x := (q1 * 131 + q2 * 1117 + p * 29 + q3 * 53) / 64) (by omega) (by omega), tm hx0]
      obtain ⟨v, h2, h3, h4⟩ := key
      exact ⟨v, h2, h3, Ev.step (f := fun _ => some (v, p + 1)) h4 (Ev.now _)⟩
theorem l91Number_ev {b : List Int} (hb : GB b) {p : Int} (hp : 0 ≤ p) (hp' : p ≤ 500) : ∃ n q, DN n ∧ p ≤ q ∧ q ≤ p + 4 ∧ Ev (fun k => spec_l91Number.f k b p) (n, q) := by
  unfold spec_l91Number.f
  obtain ⟨v, a1, a2, a3⟩ := pick_ev hb (p := p) (n := 30) hp (by omega) (by omega) (by omega)
  by_cases h : v = 0
  · obtain ⟨u, b1, b2, b3⟩ := pick_ev hb (p := p + 1) (n := 6) (by omega) (by omega) (by omega) (by omega)
    have key : DN (rd [0, 5000, 5001, (-5001), 4096, 3969] u) := by
      have : u = 0 ∨ u = 1 ∨ u = 2 ∨ u = 3 ∨ u = 4 ∨ u = 5 := by omega
      rcases this with rfl | rfl | rfl | rfl | rfl | rfl <;> simp [DN, rd]
    refine ⟨_, p + 2, key, by omega, by omega, Ev.bind a3 ?_⟩
    simp only [if_pos h, Option.bind_some]
    refine Ev.bind b3 ?_
    simp only [if_pos b1]
    rw [if_pos (by simp; omega), show p + 1 + 1 = p + 2 by omega]
    exact Ev.now _
  · obtain ⟨u, b1, b2, b3⟩ := pick_ev hb (p := p + 1) (n := 40) (by omega) (by omega) (by omega) (by omega)
    obtain ⟨x, c1, c2, c3⟩ := pick_ev hb (p := p + 1 + 1) (n := 3) (by omega) (by omega) (by omega) (by omega)
    obtain ⟨s, d1, d2, d3⟩ := pick_ev hb (p := p + 1 + 1 + 1) (n := 2) (by omega) (by omega) (by omega) (by omega)
    have hux : 0 ≤ u * (1 + x) ∧ u * (1 + x) ≤ 117 := by
      have : x = 0 ∨ x = 1 ∨ x = 2 := by omega
      rcases this with rfl | rfl | rfl <;> omega
    by_cases hs : s = 0
    · refine ⟨-(1 + u * (1 + x)), p + 4, ?_, by omega, by omega, Ev.bind a3 ?_⟩
      · unfold DN; omega
      simp only [if_neg h]
      refine Ev.bind b3 (Ev.bind c3 (Ev.bind d3 ?_))
      simp only [if_pos hs]
      rw [w64 (x := 1 + x) (by omega) (by omega), w64 (x := u * (1 + x)) (by omega) (by omega), w64 (x := 1 + u * (1 + x)) (by omega) (by omega), w64 (x := -(1 + u * (1 + x))) (by omega) (by omega), show p + 1 + 1 + 1 + 1 = p + 4 by omega]
      exact Ev.now _
    · refine ⟨1 + u * (1 + x), p + 4, ?_, by omega, by omega, Ev.bind a3 ?_⟩
      · unfold DN; omega
      simp only [if_neg h]
      refine Ev.bind b3 (Ev.bind c3 (Ev.bind d3 ?_))
      simp only [if_neg hs]
      rw [w64 (x := 1 + x) (by omega) (by omega), w64 (x := u * (1 + x)) (by omega) (by omega), w64 (x := 1 + u * (1 + x)) (by omega) (by omega), show p + 1 + 1 + 1 + 1 = p + 4 by omega]
      exact Ev.now _
theorem DrawCoreOf_ev {l : List Int} (h : ∀ x ∈ l, (Lit.int .u8 x).wf = true) : ∃ n, DN n ∧ Ev (fun k => spec_DrawCoreOf.f k l) n := by
  obtain ⟨bs, hb, e⟩ := spec_l6Open_eq h
  unfold spec_DrawCoreOf.f
  simp only [e, Option.bind_some]
  obtain ⟨n, q, a1, a2, a3, a4⟩ := l91Number_ev hb (p := 0) (by omega) (by omega)
  exact ⟨n, a1, Ev.bind a4 (Ev.now _)⟩
theorem FnCore : laws_FnCore.Pure := by
  intro l _ _ hl
  refine Ev.rounds ?_
  unfold laws_FnCore.f
  by_cases hlen : (l.length : Int) > 1048576
  · simp only [if_pos hlen]; exact Ev.now _
  · simp only [if_neg hlen]
    obtain ⟨n, dn, hev⟩ := DrawCoreOf_ev hl
    refine Ev.bind hev ?_
    by_cases hc : n ≠ 0 ∧ numB n = true
    · obtain ⟨c, r, hcore⟩ := core_exists n.natAbs n hc.1 (Nat.le_refl _)
      have hn := numB_true.1 hc.2
      have hc0 : c ≠ 0 := by
        rintro rfl
        have := hcore.1; rw [Int.zero_mul] at this; exact hc.1 this
      have hle := root_le hc0 hcore.2.1 hcore.1
      have hr := hcore.2.1
      refine Ev.bind (impl_CoreOf_ev hc.1 hc.2 hcore) (Ev.bind (spec_CoreOf_ev hc.1 hc.2 hcore) ?_)
      simp only [bne_self_eq_false, if_true, Bool.false_eq_true, if_false]
      refine Ev.step (fun k => by rw [laws_FnCore.j0, if_neg (by simp)]) ?_
      refine Ev.bind (impl_CoreOf_ev hc0 (numB_true.2 ⟨by omega, by omega⟩) (core_self hcore)) ?_
      have m1 := abs_mul_bd (show -5000 ≤ c by omega) (show c ≤ 5000 by omega) (show -5000 ≤ r by omega) (show r ≤ 5000 by omega)
      have e : c * r * r = n := by rw [Int.mul_assoc]; exact hcore.1.symm
      simp only [if_true, w64 (x := c * r) (by omega) (by omega), e, w64 (x := n) (by omega) (by omega)]
      refine Ev.bind (impl_SquareIs_ev n) ?_
      have hs : (squareOf n == (c == 1)) = true := by
        rw [beq_iff_eq, beq_decide]
        unfold squareOf
        rw [hc.2, Bool.true_and, Bool.eq_iff_iff, sqB_true, decide_eq_true_iff, core_square hc.1 hcore]
      simp only [if_pos hs]
      rw [decide_eq_true (show r ≥ 1 from hr)]
      exact Ev.now _
    · refine Ev.bind (impl_CoreOf_no hc) (Ev.bind (spec_CoreOf_no hc) ?_)
      simp only [bne_self_eq_false, if_true, Bool.false_eq_true, if_false]
      refine Ev.step (f := fun _ => some true) (fun k => ?_) (Ev.now _)
      rw [laws_FnCore.j0, if_pos (by simp), if_pos (by simp), if_pos rfl, beq_self_eq_true]

end Go.Proofs.Ytnbjnlbaoogbmaa.Pure
