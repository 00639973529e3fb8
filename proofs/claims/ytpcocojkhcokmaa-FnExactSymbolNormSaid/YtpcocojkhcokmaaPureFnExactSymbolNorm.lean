/- The program's SymbolNorm and the reference's answer alike at every two integers.
No condition beyond the given statement. The printed functions are tied to plain arithmetic one by one; the law follows at the end. -/
import Derived.Test.YtpcocojkhcokmaaPFnExactSymbolNormx3
import Derived.Test.YtpcocojkhcokmaaM8
set_option linter.unusedVariables false
set_option linter.unusedSimpArgs false
namespace Go.Proofs.Ytpcocojkhcokmaa.Pure
open Go.RowKit Go.Proofs.Ytpcocojkhcokmaa.PFnExactSymbolNorm Go.Proofs.YtpcocojkhcokmaaW.PrintWords Go.Proofs.YtpcocojkhcokmaaW.PrintLast Go.Proofs.YtpcocojkhcokmaaW.PrintMore Go.Proofs.LG

theorem spec_l6In_eq (a b c : Int) : spec_l6In.f a b c = some (decide (b ≤ a ∧ a ≤ c)) := by
  unfold spec_l6In.f
  by_cases h : a ≥ b
  · rw [if_pos h]; congr 1; rw [decide_eq_decide]; omega
  · rw [if_neg h]; congr 1; symm; rw [decide_eq_false_iff_not]; omega
theorem spec_l1Number_eq (a : Int) : spec_l1Number.f a = some (numB a) := by
  unfold spec_l1Number.f; rw [spec_l6In_eq]; rfl
theorem impl_isNumber_eq (a : Int) : impl_isNumber.f a = some (numB a) := by
  unfold impl_isNumber.f numB
  by_cases h : a ≥ -5000
  · rw [if_pos h]; congr 1; rw [decide_eq_decide]; omega
  · rw [if_neg h]; congr 1; symm; rw [decide_eq_false_iff_not]; omega
theorem spec_PrimeIs_l0 {n : Int} (h2 : 2 ≤ n) (hn : n ≤ 5000) : ∀ (d : Nat) (x : Int), 2 ≤ x → x ≤ n → n - x ≤ d → (∀ y, 2 ≤ y → y < x → ¬ y ∣ n) → Ev (fun k => spec_PrimeIs.l0 k n x) (prB n) := by
  intro d
  induction d with
  | zero =>
    intro x hx hxn hd h
    have := sq_gt hx (show n ≤ x by omega)
    have hb := mul_bd (show 0 ≤ x by omega) (show x ≤ 5000 by omega) (show 0 ≤ x by omega) (show x ≤ 5000 by omega)
    refine Ev.step (f := fun _ => some true) (fun k => ?_) ?_
    · rw [spec_PrimeIs.l0, w64 (by omega) (by omega), if_neg (by omega)]
    · rw [prB_true.2 ⟨pr_of_none h2 x (by omega) (by omega) h, hn⟩]; exact Ev.now _
  | succ d ih =>
    intro x hx hxn hd h
    have hb := mul_bd (show 0 ≤ x by omega) (show x ≤ 5000 by omega) (show 0 ≤ x by omega) (show x ≤ 5000 by omega)
    by_cases hle : x * x ≤ n
    · by_cases hdv : x ∣ n
      · have hlt : x < n := by
          have := sq_gt hx (Int.le_refl x); omega
        refine Ev.step (f := fun _ => some false) (fun k => ?_) ?_
        · rw [spec_PrimeIs.l0, w64 (by omega) (by omega), if_pos hle, if_neg (by omega), if_pos (Int.tmod_eq_zero_of_dvd hdv)]
        · rw [prB_false.2 fun hp => hp.1.2 x hx hlt hdv]; exact Ev.now _
      · have hlt : x < n := by
          have := sq_gt hx (Int.le_refl x); omega
        refine Ev.step (f := fun k => spec_PrimeIs.l0 k n (x + 1)) (fun k => ?_) (ih (x + 1) (by omega) (by omega) (by omega) ?_)
        · rw [spec_PrimeIs.l0, w64 (by omega) (by omega), if_pos hle, if_neg (by omega), if_neg (fun e => hdv (Int.dvd_of_tmod_eq_zero e)), w64 (by omega) (by omega)]
        · intro y h1 h2'
          by_cases e : y = x
          · subst e; exact hdv
          · exact h y h1 (by omega)
    · refine Ev.step (f := fun _ => some true) (fun k => ?_) ?_
      · rw [spec_PrimeIs.l0, w64 (by omega) (by omega), if_neg hle]
      · rw [prB_true.2 ⟨pr_of_none h2 x (by omega) (by omega) h, hn⟩]; exact Ev.now _
theorem spec_PrimeIs_ev (n : Int) : Ev (fun k => spec_PrimeIs.f k n) (prB n) := by
  unfold spec_PrimeIs.f
  simp only [spec_l6In_eq, Option.bind_some]
  by_cases h : 2 ≤ n ∧ n ≤ 5000
  · rw [decide_eq_true h]
    simp only [if_true]
    exact spec_PrimeIs_l0 h.1 h.2 (n - 2).toNat 2 (by omega) (by omega) (by omega) fun y h1 h2 => by omega
  · rw [decide_eq_false h]
    rw [prB_false.2 fun hp => h ⟨hp.1.1, hp.2⟩]
    exact Ev.now _
theorem impl_prime_l0 {n : Int} (h2 : 2 ≤ n) (hn : n ≤ 5000) : ∀ (d : Nat) (x : Int), 2 ≤ x → x ≤ n → n - x ≤ d → (∀ y, 2 ≤ y → y < x → ¬ y ∣ n) → Ev (fun k => impl_prime.l0 k n x) (prB n) := by
  intro d
  induction d with
  | zero =>
    intro x hx hxn hd h
    have := sq_gt hx (show n ≤ x by omega)
    have hb := mul_bd (show 0 ≤ x by omega) (show x ≤ 5000 by omega) (show 0 ≤ x by omega) (show x ≤ 5000 by omega)
    refine Ev.step (f := fun _ => some true) (fun k => ?_) ?_
    · rw [impl_prime.l0, w64 (by omega) (by omega), if_neg (by omega), decide_eq_true (by omega)]
    · rw [prB_true.2 ⟨pr_of_none h2 x (by omega) (by omega) h, hn⟩]; exact Ev.now _
  | succ d ih =>
    intro x hx hxn hd h
    have hb := mul_bd (show 0 ≤ x by omega) (show x ≤ 5000 by omega) (show 0 ≤ x by omega) (show x ≤ 5000 by omega)
    by_cases hle : x * x ≤ n
    · by_cases hdv : x ∣ n
      · have hlt : x < n := by
          have := sq_gt hx (Int.le_refl x); omega
        refine Ev.step (f := fun _ => some false) (fun k => ?_) ?_
        · rw [impl_prime.l0, w64 (by omega) (by omega), if_pos hle, if_neg (by omega), if_pos (Int.tmod_eq_zero_of_dvd hdv)]
        · rw [prB_false.2 fun hp => hp.1.2 x hx hlt hdv]; exact Ev.now _
      · have hlt : x < n := by
          have := sq_gt hx (Int.le_refl x); omega
        refine Ev.step (f := fun k => impl_prime.l0 k n (x + 1)) (fun k => ?_) (ih (x + 1) (by omega) (by omega) (by omega) ?_)
        · rw [impl_prime.l0, w64 (by omega) (by omega), if_pos hle, if_neg (by omega), if_neg (fun e => hdv (Int.dvd_of_tmod_eq_zero e)), w64 (by omega) (by omega)]
        · intro y h1 h2'
          by_cases e : y = x
          · subst e; exact hdv
          · exact h y h1 (by omega)
    · refine Ev.step (f := fun _ => some true) (fun k => ?_) ?_
      · rw [impl_prime.l0, w64 (by omega) (by omega), if_neg hle, decide_eq_true (by omega)]
      · rw [prB_true.2 ⟨pr_of_none h2 x (by omega) (by omega) h, hn⟩]; exact Ev.now _
theorem impl_PrimeIs_ev (n : Int) : Ev (fun k => impl_PrimeIs.f k n) (prB n) := by
  unfold impl_PrimeIs.f
  by_cases h5 : n ≤ 5000
  · simp only [if_pos h5]
    refine Ev.bind (a := prB n) ?_ (Ev.now _)
    unfold impl_prime.f
    by_cases h : 2 ≤ n
    · exact impl_prime_l0 h h5 (n - 2).toNat 2 (by omega) (by omega) (by omega) fun y h1 h2 => by omega
    · refine Ev.step (f := fun _ => some false) (fun k => ?_) ?_
      · rw [impl_prime.l0, w64 (by omega) (by omega), if_neg (by omega), decide_eq_false (by omega)]
      · rw [prB_false.2 fun hp => h hp.1.1]; exact Ev.now _
  · simp only [if_neg h5]
    rw [prB_false.2 fun hp => h5 hp.2]
    exact Ev.now _
theorem spec_PlaceValid_ev (n : Int) : Ev (fun k => spec_PlaceValid.f k n) (plB n) := by
  unfold spec_PlaceValid.f plB
  by_cases h : n = 0
  · simp only [if_pos h, h, decide_true, Bool.true_or]; exact Ev.now _
  · simp only [if_neg h, decide_eq_false h, Bool.false_or]
    exact Ev.bind (spec_PrimeIs_ev n) (Ev.now _)
theorem impl_PlaceValid_ev (n : Int) : Ev (fun k => impl_PlaceValid.f k n) (plB n) := by
  unfold impl_PlaceValid.f plB
  by_cases h : n = 0
  · simp only [if_pos h, h, decide_true, Bool.true_or]; exact Ev.now _
  · simp only [if_neg h, decide_eq_false h, Bool.false_or]
    exact Ev.bind (impl_PrimeIs_ev n) (Ev.now _)
theorem spec_l1Mod_eq {n m : Int} (h0 : 0 < m) (h1 : m ≤ 1000000000) : spec_l1Mod.f n m = some (n % m) := by
  unfold spec_l1Mod.f; rw [if_neg (by omega), rest_form h0 h1]
theorem impl_rest_eq {n m : Int} (h0 : 0 < m) (h1 : m ≤ 1000000000) : impl_rest.f n m = some (n % m) := by
  unfold impl_rest.f; rw [if_neg (by omega), rest_form h0 h1]
theorem spec_l1Valuation_l0 {p : Int} (hp : 2 ≤ p) (hp' : p ≤ 1000000000000000) : ∀ (f : Nat) (n : Int), n ≠ 0 → n.natAbs ≤ f → n.natAbs ≤ 1000000000000000 → ∀ c : Int, 0 ≤ c → c + f ≤ 2000000000000000 → Ev (fun k => spec_l1Valuation.l0 k n p c) (c + (spl f n p).1, (spl f n p).2) := by
  intro f
  induction f with
  | zero => intro n hn hf; omega
  | succ f ih =>
    intro n hn hf hb c hc hcf
    rw [spl]
    by_cases h : n % p = 0
    · obtain ⟨h1, h2, h3⟩ := div_smaller hp hn h
      rw [if_pos h]
      have := ih (n / p) h1 (by omega) (by omega) (c + 1) (by omega) (by omega)
      have e : c + (((spl f (n / p) p).1 + 1 : Nat) : Int) = c + 1 + ((spl f (n / p) p).1 : Int) := by omega
      show Ev (fun k => spec_l1Valuation.l0 k n p c) (c + (((spl f (n / p) p).1 + 1 : Nat) : Int), (spl f (n / p) p).2)
      rw [e]
      refine Ev.step (fun k => ?_) this
      rw [spec_l1Valuation.l0, if_neg (by omega), if_pos (tm_zero.2 h), td_dvd h, w64 (by omega) (by omega), w64 (by omega) (by omega)]
    · rw [if_neg h]
      refine Ev.step (f := fun _ => some (c, n)) (fun k => ?_) ?_
      · rw [spec_l1Valuation.l0, if_neg (by omega), if_neg (fun e => h (tm_zero.1 e))]
      · have e : c + ((0 : Nat) : Int) = c := by omega
        show Ev _ (c + ((0 : Nat) : Int), n)
        rw [e]; exact Ev.now _
theorem spec_l1Valuation_ev {n p : Int} (hp : 2 ≤ p) (hp' : p ≤ 1000000000000000) (hn : n ≠ 0) (hb : n.natAbs ≤ 1000000000000000) : Ev (fun k => spec_l1Valuation.f k n p) ((vl n p : Int), un n p) := by
  have := spec_l1Valuation_l0 hp hp' n.natAbs n hn (Nat.le_refl _) hb 0 (by omega) (by omega)
  rw [Int.zero_add] at this
  exact this
theorem impl_split_l0 {p : Int} (hp : 2 ≤ p) (hp' : p ≤ 1000000000000000) : ∀ (f : Nat) (n : Int), n ≠ 0 → n.natAbs ≤ f → n.natAbs ≤ 1000000000000000 → ∀ c : Int, 0 ≤ c → c + f ≤ 2000000000000000 → Ev (fun k => impl_split.l0 k n p c) (c + (spl f n p).1, (spl f n p).2) := by
  intro f
  induction f with
  | zero => intro n hn hf; omega
  | succ f ih =>
    intro n hn hf hb c hc hcf
    rw [spl]
    by_cases h : n % p = 0
    · obtain ⟨h1, h2, h3⟩ := div_smaller hp hn h
      rw [if_pos h]
      have := ih (n / p) h1 (by omega) (by omega) (c + 1) (by omega) (by omega)
      have e : c + (((spl f (n / p) p).1 + 1 : Nat) : Int) = c + 1 + ((spl f (n / p) p).1 : Int) := by omega
      show Ev (fun k => impl_split.l0 k n p c) (c + (((spl f (n / p) p).1 + 1 : Nat) : Int), (spl f (n / p) p).2)
      rw [e]
      refine Ev.step (fun k => ?_) this
      rw [impl_split.l0, if_neg (by omega), if_pos (tm_zero.2 h), td_dvd h, w64 (by omega) (by omega), w64 (by omega) (by omega)]
    · rw [if_neg h]
      refine Ev.step (f := fun _ => some (c, n)) (fun k => ?_) ?_
      · rw [impl_split.l0, if_neg (by omega), if_neg (fun e => h (tm_zero.1 e))]
      · have e : c + ((0 : Nat) : Int) = c := by omega
        show Ev _ (c + ((0 : Nat) : Int), n)
        rw [e]; exact Ev.now _
theorem impl_split_ev {n p : Int} (hp : 2 ≤ p) (hp' : p ≤ 1000000000000000) (hn : n ≠ 0) (hb : n.natAbs ≤ 1000000000000000) : Ev (fun k => impl_split.f k n p) ((vl n p : Int), un n p) := by
  have := impl_split_l0 hp hp' n.natAbs n hn (Nat.le_refl _) hb 0 (by omega) (by omega)
  rw [Int.zero_add] at this
  exact this
theorem spec_l1Power_l0 {m : Int} (hm : 1 ≤ m) (hm' : m ≤ 5000) : ∀ (f : Nat) (b e o : Int), 0 ≤ e → e ≤ f → e ≤ 1000000000 → 0 ≤ b → b < m → 0 ≤ o → o < m → Ev (fun k => spec_l1Power.l0 k b e m o) (o * b ^ e.toNat % m) := by
  intro f
  induction f with
  | zero =>
    intro b e o he hf hE hb hb' ho ho'
    have : e = 0 := by omega
    subst this
    have e1 : o * b ^ (0 : Int).toNat % m = o := by
      show o * b ^ 0 % m = o
      rw [Int.pow_zero, Int.mul_one, Int.emod_eq_of_lt ho ho']
    rw [e1]
    refine Ev.step (f := fun _ => some o) (fun k => ?_) (Ev.now _)
    rw [spec_l1Power.l0, if_neg (by omega)]
  | succ f ih =>
    intro b e o he hf hE hb hb' ho ho'
    by_cases h0 : e = 0
    · subst h0
      have e1 : o * b ^ (0 : Int).toNat % m = o := by
        show o * b ^ 0 % m = o
        rw [Int.pow_zero, Int.mul_one, Int.emod_eq_of_lt ho ho']
      rw [e1]
      refine Ev.step (f := fun _ => some o) (fun k => ?_) (Ev.now _)
      rw [spec_l1Power.l0, if_neg (by omega)]
    · have bb := mul_bd hb (show b ≤ 5000 by omega) hb (show b ≤ 5000 by omega)
      have ob := mul_bd ho (show o ≤ 5000 by omega) hb (show b ≤ 5000 by omega)
      have r1 := emod_bd (b * b) (show 0 < m by omega)
      have r2 := emod_bd (o * b) (show 0 < m by omega)
      have hd : Int.tdiv e 2 = e / 2 := Int.tdiv_eq_ediv_of_nonneg he
      by_cases h1 : e % 2 = 1
      · have := ih (b * b % m) (e / 2) (o * b % m) (by omega) (by omega) (by omega) r1.1 r1.2 r2.1 r2.2
        have e1 : o * b % m * (b * b % m) ^ (e / 2).toNat % m = o * b ^ e.toNat % m := by
          have ee : e.toNat = 2 * (e / 2).toNat + 1 := by omega
          rw [Int.mul_emod, Int.emod_emod, emod_pow, ← Int.mul_emod, ee, Int.pow_succ, Int.pow_mul, pow_two']
          congr 1; grind
        rw [e1] at this
        refine Ev.step (fun k => ?_) this
        rw [spec_l1Power.l0, if_pos (by omega), tm he, if_pos h1, if_neg (by omega), w64 (x := b * b) (by omega) (by omega), tm bb.1, hd, w64 (x := e / 2) (by omega) (by omega), w64 (x := o * b) (by omega) (by omega), tm ob.1]
      · have := ih (b * b % m) (e / 2) o (by omega) (by omega) (by omega) r1.1 r1.2 ho ho'
        have e1 : o * (b * b % m) ^ (e / 2).toNat % m = o * b ^ e.toNat % m := by
          have ee : e.toNat = 2 * (e / 2).toNat := by omega
          rw [Int.mul_emod, emod_pow, ← Int.mul_emod, ee, Int.pow_mul, pow_two']
        rw [e1] at this
        refine Ev.step (fun k => ?_) this
        rw [spec_l1Power.l0, if_pos (by omega), tm he, if_neg h1, if_neg (by omega), w64 (x := b * b) (by omega) (by omega), tm bb.1, hd, w64 (x := e / 2) (by omega) (by omega)]
theorem spec_l1Power_ev {n e m : Int} (he : 0 ≤ e) (he' : e ≤ 1000000000) (hm : 1 ≤ m) (hm' : m ≤ 5000) : Ev (fun k => spec_l1Power.f k n e m) (n ^ e.toNat % m) := by
  unfold spec_l1Power.f
  simp only [if_neg (show ¬ m = 0 by omega), spec_l1Mod_eq (n := n) (show 0 < m by omega) (by omega), Option.bind_some]
  have r1 := emod_bd n (show 0 < m by omega)
  have r2 := emod_bd 1 (show 0 < m by omega)
  have := spec_l1Power_l0 hm hm' e.toNat (n % m) e (1 % m) he (by omega) he' r1.1 r1.2 r2.1 r2.2
  have e1 : 1 % m * (n % m) ^ e.toNat % m = n ^ e.toNat % m := by
    rw [Int.mul_emod, Int.emod_emod, emod_pow, ← Int.mul_emod, Int.one_mul]
  rw [e1] at this
  exact this
theorem impl_bothNumbers_eq (a b : Int) : impl_bothNumbers.f a b = some (numB a && numB b && decide (a ≠ 0) && decide (b ≠ 0)) := by
  unfold impl_bothNumbers.f
  by_cases h0 : a = 0
  · rw [if_pos h0]; simp [h0]
  · rw [if_neg h0]
    by_cases h1 : b = 0
    · rw [if_pos h1]; simp [h1]
    · rw [if_neg h1, impl_isNumber_eq, impl_isNumber_eq, Option.bind_some, Option.bind_some]
      by_cases ha : numB a = true
      · rw [if_pos ha]; simp [ha, h0, h1]
      · rw [if_neg ha]; simp [ha]
theorem impl_residue_l0 {n p : Int} (hp : Pr p) (h2 : p ≠ 2) (hp' : p ≤ 5000) (hn : ¬ p ∣ n) : ∀ (d : Nat) (x : Int), 1 ≤ x → x + d = p / 2 + 1 → (∀ y, 1 ≤ y → y < x → y * y % p ≠ n % p) → Ev (fun k => impl_residue.l0 k p (n % p) x) (leg n p) := by
  have h0 := hp.1
  intro d
  induction d with
  | zero =>
    intro x hx hd h
    have : leg n p = -1 := leg_neg hn (fun hr => by
      obtain ⟨y, h1, h3, h4⟩ := (isRes_half hp h2 hn).1 hr
      exact h y h1 (by omega) h4)
    rw [this]
    refine Ev.step (f := fun _ => some (-1)) (fun k => ?_) (Ev.now _)
    rw [impl_residue.l0, tdiv_half (by omega), w64 (by omega) (by omega), if_neg (by omega)]
  | succ d ih =>
    intro x hx hd h
    have hb := mul_bd (show 0 ≤ x by omega) (show x ≤ 5000 by omega) (show 0 ≤ x by omega) (show x ≤ 5000 by omega)
    by_cases e : x * x % p = n % p
    · have : leg n p = 1 := leg_one hn ((isRes_half hp h2 hn).2 ⟨x, hx, by omega, e⟩)
      rw [this]
      refine Ev.step (f := fun _ => some 1) (fun k => ?_) (Ev.now _)
      rw [impl_residue.l0, tdiv_half (by omega), w64 (x := p / 2) (by omega) (by omega), if_pos (by omega), if_neg (by omega), w64 (by omega) (by omega), tm hb.1, if_pos e]
    · refine Ev.step (fun k => ?_) (ih (x + 1) (by omega) (by omega) fun y h1 h3 => ?_)
      · rw [impl_residue.l0, tdiv_half (by omega), w64 (x := p / 2) (by omega) (by omega), if_pos (by omega), if_neg (by omega), w64 (x := x * x) (by omega) (by omega), tm hb.1, if_neg e, w64 (by omega) (by omega)]
      · by_cases e' : y = x
        · subst e'; exact e
        · exact h y h1 (by omega)
theorem impl_residue_ev {n p : Int} (hp : Pr p) (h2 : p ≠ 2) (hp' : p ≤ 5000) : Ev (fun k => impl_residue.f k n p) (leg n p) := by
  have h0 := hp.1
  unfold impl_residue.f
  simp only [impl_rest_eq (n := n) (show 0 < p by omega) (by omega), Option.bind_some]
  by_cases h : n % p = 0
  · simp only [if_pos h]; rw [leg_zero (Int.dvd_of_emod_eq_zero h)]; exact Ev.now _
  · simp only [if_neg h]
    exact impl_residue_l0 hp h2 hp' (fun hd => h (Int.emod_eq_zero_of_dvd hd)) (p / 2).toNat 1 (by omega) (by omega) (fun y h1 h3 => by omega)
theorem spec_l1Residue_ev {n p : Int} (hp : Pr p) (h2 : p ≠ 2) (hp' : p ≤ 5000) : Ev (fun k => spec_l1Residue.f k n p) (leg n p) := by
  have h0 := hp.1
  obtain ⟨h, hh, h1⟩ := odd_prime hp h2
  unfold spec_l1Residue.f
  have e : Int.tdiv (p - 1) 2 = (h : Int) := by
    rw [tdiv_half (by omega)]; omega
  simp only [w64 (x := p - 1) (by omega) (by omega), e, w64 (x := (h : Int)) (by omega) (by omega)]
  refine Ev.bind (spec_l1Power_ev (n := n) (e := h) (by omega) (by omega) (by omega) hp') ?_
  rw [Int.toNat_natCast]
  have hm : leg n p % p = n ^ h % p := Int.emod_eq_emod_iff_emod_sub_eq_zero.2 (Int.emod_eq_zero_of_dvd (leg_euler hp h hh n))
  rw [← hm]
  rcases leg_cases n p with h | h | h
  · rw [h, Int.zero_emod]; simp only [if_neg (show ¬ (0 : Int) = p - 1 by omega)]; exact Ev.now _
  · rw [h, Int.emod_eq_of_lt (by omega) (by omega)]; simp only [if_neg (show ¬ (1 : Int) = p - 1 by omega)]; exact Ev.now _
  · have e2 : (-1 : Int) % p = p - 1 := by
      rw [← Int.add_emod_right, Int.emod_eq_of_lt (by omega) (by omega)]; omega
    rw [h, e2]; simp only [if_true]; exact Ev.now _
theorem impl_nonResidue_l0 {p : Int} (hp : Pr p) (h2 : p ≠ 2) (hp' : p ≤ 5000) : ∀ (d : Nat) (x : Int), 2 ≤ x → x + d = nrOf p → Ev (fun k => impl_nonResidue.l0 k p x) (nrOf p) := by
  obtain ⟨n1, n2, n3, n4⟩ := nr_spec hp h2
  intro d
  induction d with
  | zero =>
    intro x hx hd
    have : x = nrOf p := by omega
    subst this
    refine Ev.step (f := fun k => (impl_residue.f k (nrOf p) p).bind fun t => if t = 1 then impl_nonResidue.l0 k p (wrap64 (nrOf p + 1)) else some (nrOf p)) (fun k => ?_) (Ev.bind (impl_residue_ev hp h2 hp') ?_)
    · rw [impl_nonResidue.l0]
    · rw [n3]; simp only [if_neg (show ¬ (-1 : Int) = 1 by omega)]; exact Ev.now _
  | succ d ih =>
    intro x hx hd
    refine Ev.step (f := fun k => (impl_residue.f k x p).bind fun t => if t = 1 then impl_nonResidue.l0 k p (wrap64 (x + 1)) else some x) (fun k => ?_) (Ev.bind (impl_residue_ev hp h2 hp') ?_)
    · rw [impl_nonResidue.l0]
    · rw [n4 x hx (by omega), w64 (by omega) (by omega)]; simp only [if_true]; exact ih (x + 1) (by omega) (by omega)
theorem impl_nonResidue_ev {p : Int} (hp : Pr p) (h2 : p ≠ 2) (hp' : p ≤ 5000) : Ev (fun k => impl_nonResidue.f k p) (nrOf p) := by
  obtain ⟨n1, n2, n3, n4⟩ := nr_spec hp h2
  exact impl_nonResidue_l0 hp h2 hp' (nrOf p - 2).toNat 2 (by omega) (by omega)
theorem spec_l1None_l0 {p : Int} (hp : Pr p) (h2 : p ≠ 2) (hp' : p ≤ 5000) : ∀ (d : Nat) (x : Int), 2 ≤ x → x + d = nrOf p → Ev (fun k => spec_l1None.l0 k p x) (nrOf p) := by
  obtain ⟨n1, n2, n3, n4⟩ := nr_spec hp h2
  intro d
  induction d with
  | zero =>
    intro x hx hd
    have : x = nrOf p := by omega
    subst this
    refine Ev.step (f := fun k => (spec_l1Residue.f k (nrOf p) p).bind fun t => if t = -1 then some (nrOf p) else spec_l1None.l0 k p (wrap64 (nrOf p + 1))) (fun k => ?_) (Ev.bind (spec_l1Residue_ev hp h2 hp') ?_)
    · rw [spec_l1None.l0]
    · rw [n3]; simp only [if_true]; exact Ev.now _
  | succ d ih =>
    intro x hx hd
    refine Ev.step (f := fun k => (spec_l1Residue.f k x p).bind fun t => if t = -1 then some x else spec_l1None.l0 k p (wrap64 (x + 1))) (fun k => ?_) (Ev.bind (spec_l1Residue_ev hp h2 hp') ?_)
    · rw [spec_l1None.l0]
    · rw [n4 x hx (by omega), w64 (by omega) (by omega)]; simp only [if_neg (show ¬ (1 : Int) = -1 by omega)]; exact ih (x + 1) (by omega) (by omega)
theorem spec_l1None_ev {p : Int} (hp : Pr p) (h2 : p ≠ 2) (hp' : p ≤ 5000) : Ev (fun k => spec_l1None.f k p) (nrOf p) := by
  obtain ⟨n1, n2, n3, n4⟩ := nr_spec hp h2
  exact spec_l1None_l0 hp h2 hp' (nrOf p - 2).toNat 2 (by omega) (by omega)
theorem impl_namesAt_ev {p : Int} (hp : Pl p) (hp' : p ≤ 5000) : Ev (fun k => impl_namesAt.f k p) (namesL p) := by
  unfold impl_namesAt.f namesL
  rcases pl_cases hp with rfl | rfl | ⟨hq, h0, h2⟩
  · simp only [if_true]; exact Ev.now _
  · simp only [if_neg (show ¬ (2 : Int) = 0 by omega), if_true]; exact Ev.now _
  · simp only [if_neg h0, if_neg h2]
    obtain ⟨n1, n2, n3, n4⟩ := nr_spec hq h2
    have := mul_bd (show 0 ≤ p by have := hq.1; omega) hp' (show 0 ≤ nrOf p by omega) (show nrOf p ≤ 5000 by omega)
    refine Ev.bind (impl_nonResidue_ev hq h2 hp') ?_
    simp only [w64 (x := p * nrOf p) (by omega) (by omega)]; exact Ev.now _
theorem spec_l2Names_ev {p : Int} (hp : Pl p) (hp' : p ≤ 5000) : Ev (fun k => spec_l2Names.f k p) (namesL p) := by
  unfold spec_l2Names.f namesL
  rcases pl_cases hp with rfl | rfl | ⟨hq, h0, h2⟩
  · simp only [if_true]; exact Ev.now _
  · simp only [if_neg (show ¬ (2 : Int) = 0 by omega), if_true]; exact Ev.now _
  · simp only [if_neg h0, if_neg h2]
    obtain ⟨n1, n2, n3, n4⟩ := nr_spec hq h2
    have := mul_bd (show 0 ≤ p by have := hq.1; omega) hp' (show 0 ≤ nrOf p by omega) (show nrOf p ≤ 5000 by omega)
    refine Ev.bind (spec_l1None_ev hq h2 hp') ?_
    simp only [w64 (x := p * nrOf p) (by omega) (by omega)]; exact Ev.now _
theorem spec_l2Ok_ev (n p : Int) : Ev (fun k => spec_l2Ok.f k n p) (decide (n ≠ 0) && numB n && plB p) := by
  unfold spec_l2Ok.f
  simp only [spec_l1Number_eq, Option.bind_some]
  by_cases h : numB n = true
  · simp only [if_pos h]
    by_cases h0 : n = 0
    · simp only [if_pos h0]; simp [h0]; exact Ev.now _
    · simp only [if_neg h0]
      refine Ev.bind (spec_PlaceValid_ev p) ?_
      simp [h0, h]; exact Ev.now _
  · simp only [if_neg h]; simp [h]; exact Ev.now _
theorem rd_pre (p : List Int) (a : Int) (l : List Int) : rd (p ++ a :: l) (p.length : Int) = a := by
  unfold rd
  rw [Int.toNat_natCast, List.getD_eq_getElem?_getD, List.getElem?_append_right (Nat.le_refl _)]
  simp
theorem set_pre (p : List Int) (a : Int) (l : List Int) (c : Int) : (p ++ a :: l).set ((p.length : Int)).toNat c = p ++ c :: l := by
  rw [Int.toNat_natCast, List.set_append_right _ _ (Nat.le_refl _)]
  simp
theorem impl_power_l0 {n : Int} {K : Nat} (hK : K ≤ 1000000) (hb : ∀ i, i ≤ K → -4000000000000000000 ≤ n ^ i ∧ n ^ i ≤ 4000000000000000000) : ∀ (d : Nat) (i : Nat), i + d = K → Ev (fun k => impl_power.l0 k n (n ^ i) K i) (n ^ K) := by
  intro d
  induction d with
  | zero =>
    intro i hi
    have : i = K := by omega
    subst this
    refine Ev.step (f := fun _ => some (n ^ i)) (fun k => ?_) (Ev.now _)
    rw [impl_power.l0, if_neg (by omega)]
  | succ d ih =>
    intro i hi
    have := ih (i + 1) (by omega)
    have h1 := hb (i + 1) (by omega)
    rw [Int.pow_succ] at h1
    refine Ev.step (fun k => ?_) this
    rw [impl_power.l0, if_pos (by omega), w64 (x := n ^ i * n) (by omega) (by omega), w64 (x := (i : Int) + 1) (by omega) (by omega), ← Int.pow_succ]
    rfl
theorem impl_power_ev {n : Int} {K : Nat} (hK : K ≤ 1000000) (hb : ∀ i, i ≤ K → -4000000000000000000 ≤ n ^ i ∧ n ^ i ≤ 4000000000000000000) : Ev (fun k => impl_power.f k n K) (n ^ K) := by
  have := impl_power_l0 hK hb K 0 (by omega)
  rw [Int.pow_zero] at this
  exact this
theorem impl_power_small {n : Int} (h : n = 0 ∨ n = 1 ∨ n = -1) {K : Nat} (hK : K ≤ 1000000) : Ev (fun k => impl_power.f k n K) (n ^ K) :=
  impl_power_ev hK fun i _ => by rcases pow_small h i with e | e | e <;> rw [e] <;> omega
theorem spec_l3Half_eq {e : Int} (h : 0 ≤ e) : spec_l3Half.f e = some (half e) := by
  unfold spec_l3Half.f half
  rw [tm h]; split <;> rfl
theorem spec_l3Symbol_ev {a b p : Int} (hp : Pl p) (hp' : p ≤ 5000) (ha : a ≠ 0) (hb : b ≠ 0) (hab : a.natAbs ≤ 1000000000) (hbb : b.natAbs ≤ 1000000000) : Ev (fun k => spec_l3Symbol.f k a b p) (sym a b p) := by
  unfold spec_l3Symbol.f sym
  rcases pl_cases hp with rfl | rfl | ⟨hq, h0, h2⟩
  · simp only [if_true]
    by_cases h1 : a < 0
    · by_cases h2 : b < 0
      · simp only [if_pos h1, if_pos h2]; rw [if_pos ⟨h1, h2⟩]; exact Ev.now _
      · simp only [if_pos h1, if_neg h2]; rw [if_neg (fun h => h2 h.2)]; exact Ev.now _
    · simp only [if_neg h1]; rw [if_neg (fun h => h1 h.1)]; exact Ev.now _
  · simp only [if_neg (show ¬ (2 : Int) = 0 by omega), if_true]
    have hva := vl_lt (show (2 : Int) ≤ 2 by omega) ha
    have hvb := vl_lt (show (2 : Int) ≤ 2 by omega) hb
    have oa := odd_un ha
    have ob := odd_un hb
    refine Ev.bind (spec_l1Valuation_ev (by omega) (by omega) ha (by omega)) (Ev.bind (spec_l1Valuation_ev (by omega) (by omega) hb (by omega)) ?_)
    simp only [spec_l1Mod_eq (n := un a 2) (show (0 : Int) < 16 by omega) (by omega), spec_l1Mod_eq (n := un b 2) (show (0 : Int) < 16 by omega) (by omega), Option.bind_some]
    have p1 := half16 oa
    have p2 := half16 ob
    have q1 := eighth16 oa
    have q2 := eighth16 ob
    have r1 : 1 ≤ un a 2 % 16 ∧ un a 2 % 16 ≤ 15 := by omega
    have r2 : 1 ≤ un b 2 % 16 ∧ un b 2 % 16 ≤ 15 := by omega
    generalize un a 2 % 16 = u at *
    generalize un b 2 % 16 = v at *
    generalize un a 2 % 8 = x at *
    generalize un b 2 % 8 = y at *
    have su := mul_bd (show 0 ≤ u by omega) r1.2 (show 0 ≤ u by omega) r1.2
    have sv := mul_bd (show 0 ≤ v by omega) r2.2 (show 0 ≤ v by omega) r2.2
    have su1 : 1 ≤ u * u := by have := Int.mul_le_mul r1.1 r1.1 (by omega) (by omega); omega
    have sv1 : 1 ≤ v * v := by have := Int.mul_le_mul r2.1 r2.1 (by omega) (by omega); omega
    have t1 : Int.tdiv (u - 1) 2 = (u - 1) / 2 := Int.tdiv_eq_ediv_of_nonneg (by omega)
    have t2 : Int.tdiv (v - 1) 2 = (v - 1) / 2 := Int.tdiv_eq_ediv_of_nonneg (by omega)
    have t3 : Int.tdiv (v * v - 1) 8 = (v * v - 1) / 8 := Int.tdiv_eq_ediv_of_nonneg (by omega)
    have t4 : Int.tdiv (u * u - 1) 8 = (u * u - 1) / 8 := Int.tdiv_eq_ediv_of_nonneg (by omega)
    have m1 := mul_bd (show 0 ≤ (u - 1) / 2 by omega) (show (u - 1) / 2 ≤ 7 by omega) (show 0 ≤ (v - 1) / 2 by omega) (show (v - 1) / 2 ≤ 7 by omega)
    have m2 := mul_bd (show (0 : Int) ≤ (vl a 2 : Int) by omega) (show (vl a 2 : Int) ≤ 1000000000 by omega) (show 0 ≤ (v * v - 1) / 8 by omega) (show (v * v - 1) / 8 ≤ 28 by omega)
    have m3 := mul_bd (show (0 : Int) ≤ (vl b 2 : Int) by omega) (show (vl b 2 : Int) ≤ 1000000000 by omega) (show 0 ≤ (u * u - 1) / 8 by omega) (show (u * u - 1) / 8 ≤ 28 by omega)
    simp only [w64 (x := u - 1) (by omega) (by omega), w64 (x := v - 1) (by omega) (by omega), w64 (x := v * v) (by omega) (by omega), w64 (x := u * u) (by omega) (by omega), w64 (x := v * v - 1) (by omega) (by omega), w64 (x := u * u - 1) (by omega) (by omega), t1, t2, t3, t4,
      w64 (x := (u - 1) / 2) (by omega) (by omega), w64 (x := (v - 1) / 2) (by omega) (by omega), w64 (x := (v * v - 1) / 8) (by omega) (by omega), w64 (x := (u * u - 1) / 8) (by omega) (by omega),
      w64 (x := (u - 1) / 2 * ((v - 1) / 2)) (by omega) (by omega), w64 (x := (vl a 2 : Int) * ((v * v - 1) / 8)) (by omega) (by omega), w64 (x := (vl b 2 : Int) * ((u * u - 1) / 8)) (by omega) (by omega),
      w64 (x := (u - 1) / 2 * ((v - 1) / 2) + (vl a 2 : Int) * ((v * v - 1) / 8)) (by omega) (by omega), w64 (x := (u - 1) / 2 * ((v - 1) / 2) + (vl a 2 : Int) * ((v * v - 1) / 8) + (vl b 2 : Int) * ((u * u - 1) / 8)) (by omega) (by omega)]
    rw [spec_l3Half_eq (by omega), Option.bind_some]
    have hpar : ((u - 1) / 2 * ((v - 1) / 2) + (vl a 2 : Int) * ((v * v - 1) / 8) + (vl b 2 : Int) * ((u * u - 1) / 8)) % 2 = ((x - 1) / 2 * ((y - 1) / 2) + (vl a 2 : Int) * ((y * y - 1) / 8) + (vl b 2 : Int) * ((x * x - 1) / 8)) % 2 := by
      have e1 := mul_parity p1 p2
      have e2 := mul_parity (a := (vl a 2 : Int)) rfl q2
      have e3 := mul_parity (a := (vl b 2 : Int)) rfl q1
      omega
    rw [half_congr hpar]; exact Ev.now _
  · simp only [if_neg h0, if_neg h2]
    obtain ⟨h, hh, h1⟩ := odd_prime hq h2
    have hva := vl_lt hq.1 ha
    have hvb := vl_lt hq.1 hb
    have t1 : Int.tdiv (p - 1) 2 = (p - 1) / 2 := Int.tdiv_eq_ediv_of_nonneg (by omega)
    have m1 := mul_bd (show (0 : Int) ≤ (vl a p : Int) by omega) (show (vl a p : Int) ≤ 40 by have := vl_log hq.1 ha hab; omega) (show (0 : Int) ≤ (vl b p : Int) by omega) (show (vl b p : Int) ≤ 40 by have := vl_log hq.1 hb hbb; omega)
    have m2 := mul_bd m1.1 m1.2 (show 0 ≤ (p - 1) / 2 by omega) (show (p - 1) / 2 ≤ 5000 by omega)
    refine Ev.bind (spec_l1Valuation_ev hq.1 (by omega) ha (by omega)) (Ev.bind (spec_l1Valuation_ev hq.1 (by omega) hb (by omega)) ?_)
    simp only [w64 (x := p - 1) (by omega) (by omega), t1, w64 (x := (p - 1) / 2) (by omega) (by omega), w64 (x := (vl a p : Int) * (vl b p : Int)) (by omega) (by omega), w64 (x := (vl a p : Int) * (vl b p : Int) * ((p - 1) / 2)) (by omega) (by omega), spec_l3Half_eq (e := (vl a p : Int) * (vl b p : Int) * ((p - 1) / 2)) (by omega), Option.bind_some,
      tm (show (0 : Int) ≤ (vl a p : Int) by omega), tm (show (0 : Int) ≤ (vl b p : Int) by omega)]
    have hc := half_cases ((vl a p : Int) * (vl b p : Int) * ((p - 1) / 2))
    generalize half ((vl a p : Int) * (vl b p : Int) * ((p - 1) / 2)) = s at hc
    have hs : s = 0 ∨ s = 1 ∨ s = -1 := by omega
    have l1 := small_mul hs (leg_cases (un a p) p)
    have l2 := small_mul hs (leg_cases (un b p) p)
    have l3 := small_mul l1 (leg_cases (un b p) p)
    by_cases hj : (vl b p : Int) % 2 = 1
    · simp only [if_pos hj]
      refine Ev.bind (spec_l1Residue_ev hq h2 hp') ?_
      by_cases hi : (vl a p : Int) % 2 = 1
      · simp only [if_pos hi]
        refine Ev.bind (spec_l1Residue_ev hq h2 hp') ?_
        simp only [w64 (x := s * leg (un a p) p) (by omega) (by omega), w64 (x := s * leg (un a p) p * leg (un b p) p) (by omega) (by omega)]
        exact Ev.now _
      · simp only [if_neg hi, Int.mul_one, w64 (x := s * leg (un a p) p) (by omega) (by omega)]
        exact Ev.now _
    · simp only [if_neg hj]
      by_cases hi : (vl a p : Int) % 2 = 1
      · simp only [if_pos hi, Int.mul_one]
        refine Ev.bind (spec_l1Residue_ev hq h2 hp') ?_
        simp only [w64 (x := s * leg (un b p) p) (by omega) (by omega)]
        exact Ev.now _
      · simp only [if_neg hi, Int.mul_one]
        exact Ev.now _
theorem impl_symbol_ev {a b p : Int} (hp : Pl p) (hp' : p ≤ 5000) (ha : a ≠ 0) (hb : b ≠ 0) (hab : a.natAbs ≤ 1000000000) (hbb : b.natAbs ≤ 1000000000) : Ev (fun k => impl_symbol.f k a b p) (sym a b p) := by
  unfold impl_symbol.f sym
  rcases pl_cases hp with rfl | rfl | ⟨hq, h0, h2⟩
  · simp only [if_true]
    by_cases h1 : a < 0
    · by_cases h2 : b < 0
      · simp only [if_pos h1, if_pos h2]; rw [if_pos ⟨h1, h2⟩]; exact Ev.now _
      · simp only [if_pos h1, if_neg h2]; rw [if_neg (fun h => h2 h.2)]; exact Ev.now _
    · simp only [if_neg h1]; rw [if_neg (fun h => h1 h.1)]; exact Ev.now _
  · simp only [if_neg (show ¬ (2 : Int) = 0 by omega), if_true]
    have hva := vl_lt (show (2 : Int) ≤ 2 by omega) ha
    have hvb := vl_lt (show (2 : Int) ≤ 2 by omega) hb
    have oa := odd_un ha
    have ob := odd_un hb
    refine Ev.bind (impl_split_ev (by omega) (by omega) ha (by omega)) (Ev.bind (impl_split_ev (by omega) (by omega) hb (by omega)) ?_)
    simp only [impl_rest_eq (n := un a 2) (show (0 : Int) < 8 by omega) (by omega), impl_rest_eq (n := un b 2) (show (0 : Int) < 8 by omega) (by omega), Option.bind_some]
    have d1 : (un b 2 % 8 * (un b 2 % 8) - 1) % 8 = 0 := odd_sq8 ob
    have d2 : (un a 2 % 8 * (un a 2 % 8) - 1) % 8 = 0 := odd_sq8 oa
    have r1 : 1 ≤ un a 2 % 8 ∧ un a 2 % 8 ≤ 7 := by omega
    have r2 : 1 ≤ un b 2 % 8 ∧ un b 2 % 8 ≤ 7 := by omega
    generalize un a 2 % 8 = u at *
    generalize un b 2 % 8 = v at *
    have su := mul_bd (show 0 ≤ u by omega) r1.2 (show 0 ≤ u by omega) r1.2
    have sv := mul_bd (show 0 ≤ v by omega) r2.2 (show 0 ≤ v by omega) r2.2
    have su1 : 1 ≤ u * u := by have := Int.mul_le_mul r1.1 r1.1 (by omega) (by omega); omega
    have sv1 : 1 ≤ v * v := by have := Int.mul_le_mul r2.1 r2.1 (by omega) (by omega); omega
    have t1 : Int.tdiv (u - 1) 2 = (u - 1) / 2 := Int.tdiv_eq_ediv_of_nonneg (by omega)
    have t2 : Int.tdiv (v - 1) 2 = (v - 1) / 2 := Int.tdiv_eq_ediv_of_nonneg (by omega)
    have m1 := mul_bd (show 0 ≤ (u - 1) / 2 by omega) (show (u - 1) / 2 ≤ 7 by omega) (show 0 ≤ (v - 1) / 2 by omega) (show (v - 1) / 2 ≤ 7 by omega)
    have m2 := mul_bd (show (0 : Int) ≤ (vl a 2 : Int) by omega) (show (vl a 2 : Int) ≤ 1000000000 by omega) (show 0 ≤ v * v - 1 by omega) (show v * v - 1 ≤ 48 by omega)
    have m3 := mul_bd (show (0 : Int) ≤ (vl b 2 : Int) by omega) (show (vl b 2 : Int) ≤ 1000000000 by omega) (show 0 ≤ u * u - 1 by omega) (show u * u - 1 ≤ 48 by omega)
    have t3 : Int.tdiv ((vl a 2 : Int) * (v * v - 1)) 8 = (vl a 2 : Int) * ((v * v - 1) / 8) := by
      rw [Int.tdiv_eq_ediv_of_nonneg m2.1, Int.mul_ediv_assoc _ (Int.dvd_of_emod_eq_zero d1)]
    have t4 : Int.tdiv ((vl b 2 : Int) * (u * u - 1)) 8 = (vl b 2 : Int) * ((u * u - 1) / 8) := by
      rw [Int.tdiv_eq_ediv_of_nonneg m3.1, Int.mul_ediv_assoc _ (Int.dvd_of_emod_eq_zero d2)]
    have m4 := mul_bd (show (0 : Int) ≤ (vl a 2 : Int) by omega) (show (vl a 2 : Int) ≤ 1000000000 by omega) (show 0 ≤ (v * v - 1) / 8 by omega) (show (v * v - 1) / 8 ≤ 28 by omega)
    have m5 := mul_bd (show (0 : Int) ≤ (vl b 2 : Int) by omega) (show (vl b 2 : Int) ≤ 1000000000 by omega) (show 0 ≤ (u * u - 1) / 8 by omega) (show (u * u - 1) / 8 ≤ 28 by omega)
    simp only [w64 (x := u - 1) (by omega) (by omega), w64 (x := v - 1) (by omega) (by omega), w64 (x := v * v) (by omega) (by omega), w64 (x := u * u) (by omega) (by omega), w64 (x := v * v - 1) (by omega) (by omega), w64 (x := u * u - 1) (by omega) (by omega), t1, t2,
      w64 (x := (u - 1) / 2) (by omega) (by omega), w64 (x := (v - 1) / 2) (by omega) (by omega), w64 (x := (u - 1) / 2 * ((v - 1) / 2)) (by omega) (by omega), w64 (x := (vl a 2 : Int) * (v * v - 1)) (by omega) (by omega), w64 (x := (vl b 2 : Int) * (u * u - 1)) (by omega) (by omega), t3, t4,
      w64 (x := (vl a 2 : Int) * ((v * v - 1) / 8)) (by omega) (by omega), w64 (x := (vl b 2 : Int) * ((u * u - 1) / 8)) (by omega) (by omega),
      w64 (x := (u - 1) / 2 * ((v - 1) / 2) + (vl a 2 : Int) * ((v * v - 1) / 8)) (by omega) (by omega), w64 (x := (u - 1) / 2 * ((v - 1) / 2) + (vl a 2 : Int) * ((v * v - 1) / 8) + (vl b 2 : Int) * ((u * u - 1) / 8)) (by omega) (by omega),
      tm (show 0 ≤ (u - 1) / 2 * ((v - 1) / 2) + (vl a 2 : Int) * ((v * v - 1) / 8) + (vl b 2 : Int) * ((u * u - 1) / 8) by omega)]
    generalize hE : (u - 1) / 2 * ((v - 1) / 2) + (vl a 2 : Int) * ((v * v - 1) / 8) + (vl b 2 : Int) * ((u * u - 1) / 8) = E
    have hE0 : 0 ≤ E := by omega
    have e2 := emod_bd E (show (0 : Int) < 2 by omega)
    have hpow := impl_power_small (n := -1) (by simp) (K := (E % 2).toNat) (by omega)
    rw [half_pow E hE0, show (((E % 2).toNat : Nat) : Int) = E % 2 by omega] at hpow
    exact Ev.bind hpow (Ev.now _)
  · simp only [if_neg h0, if_neg h2]
    obtain ⟨h, hh, h1⟩ := odd_prime hq h2
    have m1 := mul_bd (show (0 : Int) ≤ (vl a p : Int) by omega) (show (vl a p : Int) ≤ 40 by have := vl_log hq.1 ha hab; omega) (show (0 : Int) ≤ (vl b p : Int) by omega) (show (vl b p : Int) ≤ 40 by have := vl_log hq.1 hb hbb; omega)
    have m2 := mul_bd m1.1 m1.2 (show 0 ≤ p - 1 by omega) (show p - 1 ≤ 5000 by omega)
    have m3 := mul_bd m1.1 m1.2 (show 0 ≤ (p - 1) / 2 by omega) (show (p - 1) / 2 ≤ 5000 by omega)
    have t1 : Int.tdiv ((vl a p : Int) * (vl b p : Int) * (p - 1)) 2 = (vl a p : Int) * (vl b p : Int) * ((p - 1) / 2) := by
      rw [Int.tdiv_eq_ediv_of_nonneg m2.1, Int.mul_ediv_assoc _ (Int.dvd_of_emod_eq_zero (by omega))]
    refine Ev.bind (impl_split_ev hq.1 (by omega) ha (by omega)) (Ev.bind (impl_split_ev hq.1 (by omega) hb (by omega)) ?_)
    simp only [w64 (x := p - 1) (by omega) (by omega), w64 (x := (vl a p : Int) * (vl b p : Int)) (by omega) (by omega), w64 (x := (vl a p : Int) * (vl b p : Int) * (p - 1)) (by omega) (by omega), t1, w64 (x := (vl a p : Int) * (vl b p : Int) * ((p - 1) / 2)) (by omega) (by omega),
      tm m3.1, tm (show (0 : Int) ≤ (vl a p : Int) by omega), tm (show (0 : Int) ≤ (vl b p : Int) by omega)]
    generalize hE : (vl a p : Int) * (vl b p : Int) * ((p - 1) / 2) = E at m3
    have e2 := emod_bd E (show (0 : Int) < 2 by omega)
    have hpow := impl_power_small (n := -1) (by simp) (K := (E % 2).toNat) (by omega)
    rw [half_pow E m3.1, show (((E % 2).toNat : Nat) : Int) = E % 2 by omega] at hpow
    refine Ev.bind hpow (Ev.bind (impl_residue_ev hq h2 hp') ?_)
    have f1 : ∀ (t : Int) (c : Nat), t ^ c % 2 = t ^ c % 2 := fun _ _ => rfl
    have pw : ∀ {t : Int} {c : Int}, 0 ≤ c → (t = 0 ∨ t = 1 ∨ t = -1) → Ev (fun k => impl_power.f k t (c % 2)) (if c % 2 = 1 then t else 1) := by
      intro t c hc ht
      have := impl_power_small ht (K := (c % 2).toNat) (by omega)
      rw [show (((c % 2).toNat : Nat) : Int) = c % 2 by omega] at this
      rcases Int.emod_two_eq c with e | e
      · rw [e] at this ⊢; rw [if_neg (by omega)]; simpa using this
      · rw [e] at this ⊢; rw [if_pos rfl]
        have h1 : Ev (fun k => impl_power.f k t 1) (t ^ 1) := this
        rw [Int.pow_succ, Int.pow_zero, Int.one_mul] at h1
        exact h1
    refine Ev.bind (pw (by omega) (leg_cases _ _)) (Ev.bind (impl_residue_ev hq h2 hp') (Ev.bind (pw (by omega) (leg_cases _ _)) ?_))
    have hc := half_cases E
    generalize half E = s at hc
    have hs : s = 0 ∨ s = 1 ∨ s = -1 := by omega
    have hx : (if (vl b p : Int) % 2 = 1 then leg (un a p) p else 1) = 0 ∨ (if (vl b p : Int) % 2 = 1 then leg (un a p) p else 1) = 1 ∨ (if (vl b p : Int) % 2 = 1 then leg (un a p) p else 1) = -1 := by
      split
      · exact leg_cases _ _
      · simp
    have hy : (if (vl a p : Int) % 2 = 1 then leg (un b p) p else 1) = 0 ∨ (if (vl a p : Int) % 2 = 1 then leg (un b p) p else 1) = 1 ∨ (if (vl a p : Int) % 2 = 1 then leg (un b p) p else 1) = -1 := by
      split
      · exact leg_cases _ _
      · simp
    generalize (if (vl b p : Int) % 2 = 1 then leg (un a p) p else 1) = x at hx
    generalize (if (vl a p : Int) % 2 = 1 then leg (un b p) p else 1) = y at hy
    have l1 := small_mul hs hx
    have l2 := small_mul l1 hy
    rw [w64 (x := s * x) (by omega) (by omega), w64 (x := s * x * y) (by omega) (by omega)]
    exact Ev.now _
noncomputable def normC (a p : Int) : List Int → Int
  | [] => 0
  | b :: l => (if sym a b p = 1 then 1 else 0) + normC a p l
noncomputable def normOf (a p : Int) : Int := if a ≠ 0 ∧ numB a = true ∧ plB p = true then normC a p (namesL p) else -1
theorem names_len8 (p : Int) : (namesL p).length ≤ 8 := by
  unfold namesL; split
  · simp
  · split <;> simp
theorem rd_pos (p : List Int) (a : Int) (l : List Int) : rd (p ++ a :: l) (p.length : Int) = a := by
  unfold rd
  rw [Int.toNat_natCast, List.getD_eq_getElem?_getD, List.getElem?_append_right (Nat.le_refl _)]
  simp
theorem spec_SymbolNorm_l0 {a p : Int} (hp : Pl p) (hp' : p ≤ 5000) (ha : a ≠ 0) (hb : a.natAbs ≤ 5000) : ∀ (l pre : List Int) (n : Int), pre ++ l = namesL p → 0 ≤ n → n ≤ pre.length → Ev (fun k => spec_SymbolNorm.l0 k a p n (namesL p) pre.length) (n + normC a p l) := by
  have h8 := names_len8 p
  intro l
  induction l with
  | nil =>
    intro pre n e hn hn'
    have hl : (namesL p).length = pre.length := by rw [← e]; simp
    refine Ev.step (f := fun _ => some n) (fun k => by rw [spec_SymbolNorm.l0, if_neg (by omega)]) ?_
    rw [normC, Int.add_zero]; exact Ev.now _
  | cons m l ih =>
    intro pre n e hn hn'
    have hl : (namesL p).length = pre.length + (l.length + 1) := by rw [← e]; simp
    have hrd : rd (namesL p) (pre.length : Int) = m := by rw [← e]; exact rd_pos ..
    have hmem : m ∈ namesL p := by rw [← e]; simp
    have hmb := names_bd hp hp' hmem
    refine Ev.step (fun k => by rw [spec_SymbolNorm.l0, if_pos (by omega), if_pos (by omega), hrd, w64 (x := n + 1) (by omega) (by omega), w64 (x := (pre.length : Int) + 1) (by omega) (by omega)]) ?_
    refine Ev.bind (spec_l3Symbol_ev hp hp' ha (mem_ne hp hmem) (by omega) (by omega)) ?_
    rw [normC]
    by_cases h1 : sym a m p = 1
    · simp only [if_pos h1]
      have := ih (pre ++ [m]) (n + 1) (by rw [← e]; simp) (by omega) (by simp; omega)
      rw [List.length_append, Int.add_assoc] at this
      exact this
    · simp only [if_neg h1, Int.zero_add]
      have := ih (pre ++ [m]) n (by rw [← e]; simp) (by omega) (by simp; omega)
      rw [List.length_append] at this
      exact this
theorem spec_SymbolNorm_ev (a p : Int) : Ev (fun k => spec_SymbolNorm.f k a p) (normOf a p) := by
  unfold spec_SymbolNorm.f
  refine Ev.bind (spec_l2Ok_ev a p) ?_
  unfold normOf
  by_cases h : (decide (a ≠ 0) && numB a && plB p) = true
  · simp only [if_pos h]
    simp only [Bool.and_eq_true, decide_eq_true_eq] at h
    have hn := numB_true.1 h.1.2
    have hp := plB_pl h.2
    rw [if_pos ⟨h.1.1, h.1.2, h.2⟩]
    refine Ev.bind (spec_l2Names_ev hp.1 hp.2.2) ?_
    have := spec_SymbolNorm_l0 hp.1 hp.2.2 h.1.1 (by omega) (namesL p) [] 0 rfl (by omega) (by simp)
    rw [Int.zero_add] at this
    exact this
  · simp only [if_neg h]
    rw [if_neg (fun g => h (by simp [g.1, g.2.1, g.2.2]))]; exact Ev.now _
theorem impl_SymbolNorm_l0 {a p : Int} (hp : Pl p) (hp' : p ≤ 5000) (ha : a ≠ 0) (hb : a.natAbs ≤ 5000) : ∀ (l pre : List Int) (n : Int), pre ++ l = namesL p → 0 ≤ n → n ≤ pre.length → Ev (fun k => impl_SymbolNorm.l0 k a p n (namesL p) ((namesL p).length : Int) pre.length) (n + normC a p l) := by
  have h8 := names_len8 p
  intro l
  induction l with
  | nil =>
    intro pre n e hn hn'
    have hl : (namesL p).length = pre.length := by rw [← e]; simp
    refine Ev.step (f := fun _ => some n) (fun k => by rw [impl_SymbolNorm.l0, if_neg (by omega)]) ?_
    rw [normC, Int.add_zero]; exact Ev.now _
  | cons m l ih =>
    intro pre n e hn hn'
    have hl : (namesL p).length = pre.length + (l.length + 1) := by rw [← e]; simp
    have hrd : rd (namesL p) (pre.length : Int) = m := by rw [← e]; exact rd_pos ..
    have hmem : m ∈ namesL p := by rw [← e]; simp
    have hmb := names_bd hp hp' hmem
    refine Ev.step (fun k => by rw [impl_SymbolNorm.l0, if_pos (by omega), if_pos (by omega), if_pos (by omega), hrd, w64 (x := n + 1) (by omega) (by omega), w64 (x := (pre.length : Int) + 1) (by omega) (by omega)]) ?_
    refine Ev.bind (impl_symbol_ev hp hp' ha (mem_ne hp hmem) (by omega) (by omega)) ?_
    rw [normC]
    by_cases h1 : sym a m p = 1
    · simp only [if_pos h1]
      have := ih (pre ++ [m]) (n + 1) (by rw [← e]; simp) (by omega) (by simp; omega)
      rw [List.length_append, Int.add_assoc] at this
      exact this
    · simp only [if_neg h1, Int.zero_add]
      have := ih (pre ++ [m]) n (by rw [← e]; simp) (by omega) (by simp; omega)
      rw [List.length_append] at this
      exact this
theorem impl_SymbolNorm_no (a p : Int) : Ev (fun k => impl_SymbolNorm.j0 k a p true) (-1) := by
  refine Ev.step (f := fun _ => some (-1)) (fun k => ?_) (Ev.now _)
  rw [impl_SymbolNorm.j0, if_pos rfl]
theorem impl_SymbolNorm_ev (a p : Int) : Ev (fun k => impl_SymbolNorm.f k a p) (normOf a p) := by
  unfold impl_SymbolNorm.f normOf
  simp only [impl_bothNumbers_eq, Option.bind_some]
  by_cases h : (numB a && numB a && decide (a ≠ 0) && decide (a ≠ 0)) = true
  · simp only [if_pos h]
    simp only [Bool.and_eq_true, decide_eq_true_eq] at h
    refine Ev.bind (impl_PlaceValid_ev p) ?_
    by_cases hpl : plB p = true
    · have hn := numB_true.1 h.1.1.1
      have hp := plB_pl hpl
      rw [if_pos ⟨h.2, h.1.1.1, hpl⟩, hpl]
      refine Ev.step (fun k => by rw [impl_SymbolNorm.j0, if_neg (by simp)]) ?_
      refine Ev.bind (impl_namesAt_ev hp.1 hp.2.2) ?_
      have := impl_SymbolNorm_l0 hp.1 hp.2.2 h.2 (by omega) (namesL p) [] 0 rfl (by omega) (by simp)
      rw [Int.zero_add] at this
      exact this
    · rw [if_neg (fun g => hpl g.2.2)]
      rw [Bool.not_eq_true] at hpl
      rw [hpl]; exact impl_SymbolNorm_no ..
  · simp only [if_neg h]
    rw [if_neg (fun g => h (by simp [g.1, g.2.1]))]; exact impl_SymbolNorm_no ..
theorem FnExactSymbolNorm : laws_FnExactSymbolNorm.Pure := by
  intro a p _ _
  refine Ev.rounds ?_
  unfold laws_FnExactSymbolNorm.f
  refine Ev.bind (spec_SymbolNorm_ev a p) (Ev.bind (impl_SymbolNorm_ev a p) ?_)
  rw [if_pos rfl]; exact Ev.now _

end Go.Proofs.Ytpcocojkhcokmaa.Pure
