/- The program's LocalName and the reference's answer alike at every two integers.
No condition beyond the given statement. The printed functions are tied to plain arithmetic one by one; the law follows at the end. -/
import Derived.Test.YtpcocojkhcokmaaPFnExactLocalNamex3
import Derived.Test.YtpcocojkhcokmaaM5
set_option linter.unusedVariables false
set_option linter.unusedSimpArgs false
namespace Go.Proofs.Ytpcocojkhcokmaa.Pure
open Go.RowKit Go.Proofs.Ytpcocojkhcokmaa.PFnExactLocalName Go.Proofs.YtpcocojkhcokmaaW.PrintWords Go.Proofs.YtpcocojkhcokmaaW.PrintLast Go.Proofs.YtpcocojkhcokmaaW.PrintMore Go.Proofs.LG

theorem spec_l6In_eq (a b c : Int) : spec_l6In.f a b c = some (decide (b ≤ a ∧ a ≤ c)) := by
  unfold spec_l6In.f
  by_cases h : a ≥ b
  · rw [if_pos h]; congr 1; rw [decide_eq_decide]; omega
  · rw [if_neg h]; congr 1; symm; rw [decide_eq_false_iff_not]; omega
theorem spec_l1Number_eq (a : Int) : spec_l1Number.f a = some (numB a) := by
  unfold spec_l1Number.f; rw [spec_l6In_eq]; rfl
theorem impl_isNumber_eq (a : Int) : impl_isNumber.f a = some (numB a) := by
  unfold impl_isNumber.f numB
  by_cases h : a ≥ -5000
  · rw [if_pos h]; congr 1; rw [decide_eq_decide]; omega
  · rw [if_neg h]; congr 1; symm; rw [decide_eq_false_iff_not]; omega
theorem spec_PrimeIs_l0 {n : Int} (h2 : 2 ≤ n) (hn : n ≤ 5000) : ∀ (d : Nat) (x : Int), 2 ≤ x → x ≤ n → n - x ≤ d → (∀ y, 2 ≤ y → y < x → ¬ y ∣ n) → Ev (fun k => spec_PrimeIs.l0 k n x) (prB n) := by
  intro d
  induction d with
  | zero =>
    intro x hx hxn hd h
    have := sq_gt hx (show n ≤ x by omega)
    have hb := mul_bd (show 0 ≤ x by omega) (show x ≤ 5000 by omega) (show 0 ≤ x by omega) (show x ≤ 5000 by omega)
    refine Ev.step (f := fun _ => some true) (fun k => ?_) ?_
    · rw [spec_PrimeIs.l0, w64 (by omega) (by omega), if_neg (by omega)]
    · rw [prB_true.2 ⟨pr_of_none h2 x (by omega) (by omega) h, hn⟩]; exact Ev.now _
  | succ d ih =>
    intro x hx hxn hd h
    have hb := mul_bd (show 0 ≤ x by omega) (show x ≤ 5000 by omega) (show 0 ≤ x by omega) (show x ≤ 5000 by omega)
    by_cases hle : x * x ≤ n
    · by_cases hdv : x ∣ n
      · have hlt : x < n := by
          have := sq_gt hx (Int.le_refl x); omega
        refine Ev.step (f := fun _ => some false) (fun k => ?_) ?_
        · rw [spec_PrimeIs.l0, w64 (by omega) (by omega), if_pos hle, if_neg (by omega), if_pos (Int.tmod_eq_zero_of_dvd hdv)]
        · rw [prB_false.2 fun hp => hp.1.2 x hx hlt hdv]; exact Ev.now _
      · have hlt : x < n := by
          have := sq_gt hx (Int.le_refl x); omega
        refine Ev.step (f := fun k => spec_PrimeIs.l0 k n (x + 1)) (fun k => ?_) (ih (x + 1) (by omega) (by omega) (by omega) ?_)
        · rw [spec_PrimeIs.l0, w64 (by omega) (by omega), if_pos hle, if_neg (by omega), if_neg (fun e => hdv (Int.dvd_of_tmod_eq_zero e)), w64 (by omega) (by omega)]
        · intro y h1 h2'
          by_cases e : y = x
          · subst e; exact hdv
          · exact h y h1 (by omega)
    · refine Ev.step (f := fun _ => some true) (fun k => ?_) ?_
      · rw [spec_PrimeIs.l0, w64 (by omega) (by omega), if_neg hle]
      · rw [prB_true.2 ⟨pr_of_none h2 x (by omega) (by omega) h, hn⟩]; exact Ev.now _
theorem spec_PrimeIs_ev (n : Int) : Ev (fun k => spec_PrimeIs.f k n) (prB n) := by
  unfold spec_PrimeIs.f
  simp only [spec_l6In_eq, Option.bind_some]
  by_cases h : 2 ≤ n ∧ n ≤ 5000
  · rw [decide_eq_true h]
    simp only [if_true]
    exact spec_PrimeIs_l0 h.1 h.2 (n - 2).toNat 2 (by omega) (by omega) (by omega) fun y h1 h2 => by omega
  · rw [decide_eq_false h]
    rw [prB_false.2 fun hp => h ⟨hp.1.1, hp.2⟩]
    exact Ev.now _
theorem impl_prime_l0 {n : Int} (h2 : 2 ≤ n) (hn : n ≤ 5000) : ∀ (d : Nat) (x : Int), 2 ≤ x → x ≤ n → n - x ≤ d → (∀ y, 2 ≤ y → y < x → ¬ y ∣ n) → Ev (fun k => impl_prime.l0 k n x) (prB n) := by
  intro d
  induction d with
  | zero =>
    intro x hx hxn hd h
    have := sq_gt hx (show n ≤ x by omega)
    have hb := mul_bd (show 0 ≤ x by omega) (show x ≤ 5000 by omega) (show 0 ≤ x by omega) (show x ≤ 5000 by omega)
    refine Ev.step (f := fun _ => some true) (fun k => ?_) ?_
    · rw [impl_prime.l0, w64 (by omega) (by omega), if_neg (by omega), decide_eq_true (by omega)]
    · rw [prB_true.2 ⟨pr_of_none h2 x (by omega) (by omega) h, hn⟩]; exact Ev.now _
  | succ d ih =>
    intro x hx hxn hd h
    have hb := mul_bd (show 0 ≤ x by omega) (show x ≤ 5000 by omega) (show 0 ≤ x by omega) (show x ≤ 5000 by omega)
    by_cases hle : x * x ≤ n
    · by_cases hdv : x ∣ n
      · have hlt : x < n := by
          have := sq_gt hx (Int.le_refl x); omega
        refine Ev.step (f := fun _ => some false) (fun k => ?_) ?_
        · rw [impl_prime.l0, w64 (by omega) (by omega), if_pos hle, if_neg (by omega), if_pos (Int.tmod_eq_zero_of_dvd hdv)]
        · rw [prB_false.2 fun hp => hp.1.2 x hx hlt hdv]; exact Ev.now _
      · have hlt : x < n := by
          have := sq_gt hx (Int.le_refl x); omega
        refine Ev.step (f := fun k => impl_prime.l0 k n (x + 1)) (fun k => ?_) (ih (x + 1) (by omega) (by omega) (by omega) ?_)
        · rw [impl_prime.l0, w64 (by omega) (by omega), if_pos hle, if_neg (by omega), if_neg (fun e => hdv (Int.dvd_of_tmod_eq_zero e)), w64 (by omega) (by omega)]
        · intro y h1 h2'
          by_cases e : y = x
          · subst e; exact hdv
          · exact h y h1 (by omega)
    · refine Ev.step (f := fun _ => some true) (fun k => ?_) ?_
      · rw [impl_prime.l0, w64 (by omega) (by omega), if_neg hle, decide_eq_true (by omega)]
      · rw [prB_true.2 ⟨pr_of_none h2 x (by omega) (by omega) h, hn⟩]; exact Ev.now _
theorem impl_PrimeIs_ev (n : Int) : Ev (fun k => impl_PrimeIs.f k n) (prB n) := by
  unfold impl_PrimeIs.f
  by_cases h5 : n ≤ 5000
  · simp only [if_pos h5]
    refine Ev.bind (a := prB n) ?_ (Ev.now _)
    unfold impl_prime.f
    by_cases h : 2 ≤ n
    · exact impl_prime_l0 h h5 (n - 2).toNat 2 (by omega) (by omega) (by omega) fun y h1 h2 => by omega
    · refine Ev.step (f := fun _ => some false) (fun k => ?_) ?_
      · rw [impl_prime.l0, w64 (by omega) (by omega), if_neg (by omega), decide_eq_false (by omega)]
      · rw [prB_false.2 fun hp => h hp.1.1]; exact Ev.now _
  · simp only [if_neg h5]
    rw [prB_false.2 fun hp => h5 hp.2]
    exact Ev.now _
theorem spec_PlaceValid_ev (n : Int) : Ev (fun k => spec_PlaceValid.f k n) (plB n) := by
  unfold spec_PlaceValid.f plB
  by_cases h : n = 0
  · simp only [if_pos h, h, decide_true, Bool.true_or]; exact Ev.now _
  · simp only [if_neg h, decide_eq_false h, Bool.false_or]
    exact Ev.bind (spec_PrimeIs_ev n) (Ev.now _)
theorem impl_PlaceValid_ev (n : Int) : Ev (fun k => impl_PlaceValid.f k n) (plB n) := by
  unfold impl_PlaceValid.f plB
  by_cases h : n = 0
  · simp only [if_pos h, h, decide_true, Bool.true_or]; exact Ev.now _
  · simp only [if_neg h, decide_eq_false h, Bool.false_or]
    exact Ev.bind (impl_PrimeIs_ev n) (Ev.now _)
theorem spec_l1Mod_eq {n m : Int} (h0 : 0 < m) (h1 : m ≤ 1000000000) : spec_l1Mod.f n m = some (n % m) := by
  unfold spec_l1Mod.f; rw [if_neg (by omega), rest_form h0 h1]
theorem impl_rest_eq {n m : Int} (h0 : 0 < m) (h1 : m ≤ 1000000000) : impl_rest.f n m = some (n % m) := by
  unfold impl_rest.f; rw [if_neg (by omega), rest_form h0 h1]
theorem spec_l1Valuation_l0 {p : Int} (hp : 2 ≤ p) (hp' : p ≤ 1000000000000000) : ∀ (f : Nat) (n : Int), n ≠ 0 → n.natAbs ≤ f → n.natAbs ≤ 1000000000000000 → ∀ c : Int, 0 ≤ c → c + f ≤ 2000000000000000 → Ev (fun k => spec_l1Valuation.l0 k n p c) (c + (spl f n p).1, (spl f n p).2) := by
  intro f
  induction f with
  | zero => intro n hn hf; omega
  | succ f ih =>
    intro n hn hf hb c hc hcf
    rw [spl]
    by_cases h : n % p = 0
    · obtain ⟨h1, h2, h3⟩ := div_smaller hp hn h
      rw [if_pos h]
      have := ih (n / p) h1 (by omega) (by omega) (c + 1) (by omega) (by omega)
      have e : c + (((spl f (n / p) p).1 + 1 : Nat) : Int) = c + 1 + ((spl f (n / p) p).1 : Int) := by omega
      show Ev (fun k => spec_l1Valuation.l0 k n p c) (c + (((spl f (n / p) p).1 + 1 : Nat) : Int), (spl f (n / p) p).2)
      rw [e]
      refine Ev.step (fun k => ?_) this
      rw [spec_l1Valuation.l0, if_neg (by omega), if_pos (tm_zero.2 h), td_dvd h, w64 (by omega) (by omega), w64 (by omega) (by omega)]
    · rw [if_neg h]
      refine Ev.step (f := fun _ => some (c, n)) (fun k => ?_) ?_
      · rw [spec_l1Valuation.l0, if_neg (by omega), if_neg (fun e => h (tm_zero.1 e))]
      · have e : c + ((0 : Nat) : Int) = c := by omega
        show Ev _ (c + ((0 : Nat) : Int), n)
        rw [e]; exact Ev.now _
theorem spec_l1Valuation_ev {n p : Int} (hp : 2 ≤ p) (hp' : p ≤ 1000000000000000) (hn : n ≠ 0) (hb : n.natAbs ≤ 1000000000000000) : Ev (fun k => spec_l1Valuation.f k n p) ((vl n p : Int), un n p) := by
  have := spec_l1Valuation_l0 hp hp' n.natAbs n hn (Nat.le_refl _) hb 0 (by omega) (by omega)
  rw [Int.zero_add] at this
  exact this
theorem impl_split_l0 {p : Int} (hp : 2 ≤ p) (hp' : p ≤ 1000000000000000) : ∀ (f : Nat) (n : Int), n ≠ 0 → n.natAbs ≤ f → n.natAbs ≤ 1000000000000000 → ∀ c : Int, 0 ≤ c → c + f ≤ 2000000000000000 → Ev (fun k => impl_split.l0 k n p c) (c + (spl f n p).1, (spl f n p).2) := by
  intro f
  induction f with
  | zero => intro n hn hf; omega
  | succ f ih =>
    intro n hn hf hb c hc hcf
    rw [spl]
    by_cases h : n % p = 0
    · obtain ⟨h1, h2, h3⟩ := div_smaller hp hn h
      rw [if_pos h]
      have := ih (n / p) h1 (by omega) (by omega) (c + 1) (by omega) (by omega)
      have e : c + (((spl f (n / p) p).1 + 1 : Nat) : Int) = c + 1 + ((spl f (n / p) p).1 : Int) := by omega
      show Ev (fun k => impl_split.l0 k n p c) (c + (((spl f (n / p) p).1 + 1 : Nat) : Int), (spl f (n / p) p).2)
      rw [e]
      refine Ev.step (fun k => ?_) this
      rw [impl_split.l0, if_neg (by omega), if_pos (tm_zero.2 h), td_dvd h, w64 (by omega) (by omega), w64 (by omega) (by omega)]
    · rw [if_neg h]
      refine Ev.step (f := fun _ => some (c, n)) (fun k => ?_) ?_
      · rw [impl_split.l0, if_neg (by omega), if_neg (fun e => h (tm_zero.1 e))]
      · have e : c + ((0 : Nat) : Int) = c := by omega
        show Ev _ (c + ((0 : Nat) : Int), n)
        rw [e]; exact Ev.now _
theorem impl_split_ev {n p : Int} (hp : 2 ≤ p) (hp' : p ≤ 1000000000000000) (hn : n ≠ 0) (hb : n.natAbs ≤ 1000000000000000) : Ev (fun k => impl_split.f k n p) ((vl n p : Int), un n p) := by
  have := impl_split_l0 hp hp' n.natAbs n hn (Nat.le_refl _) hb 0 (by omega) (by omega)
  rw [Int.zero_add] at this
  exact this
theorem spec_l1Power_l0 {m : Int} (hm : 1 ≤ m) (hm' : m ≤ 5000) : ∀ (f : Nat) (b e o : Int), 0 ≤ e → e ≤ f → e ≤ 1000000000 → 0 ≤ b → b < m → 0 ≤ o → o < m → Ev (fun k => spec_l1Power.l0 k b e m o) (o * b ^ e.toNat % m) := by
  intro f
  induction f with
  | zero =>
    intro b e o he hf hE hb hb' ho ho'
    have : e = 0 := by omega
    subst this
    have e1 : o * b ^ (0 : Int).toNat % m = o := by
      show o * b ^ 0 % m = o
      rw [Int.pow_zero, Int.mul_one, Int.emod_eq_of_lt ho ho']
    rw [e1]
    refine Ev.step (f := fun _ => some o) (fun k => ?_) (Ev.now _)
    rw [spec_l1Power.l0, if_neg (by omega)]
  | succ f ih =>
    intro b e o he hf hE hb hb' ho ho'
    by_cases h0 : e = 0
    · subst h0
      have e1 : o * b ^ (0 : Int).toNat % m = o := by
        show o * b ^ 0 % m = o
        rw [Int.pow_zero, Int.mul_one, Int.emod_eq_of_lt ho ho']
      rw [e1]
      refine Ev.step (f := fun _ => some o) (fun k => ?_) (Ev.now _)
      rw [spec_l1Power.l0, if_neg (by omega)]
    · have bb := mul_bd hb (show b ≤ 5000 by omega) hb (show b ≤ 5000 by omega)
      have ob := mul_bd ho (show o ≤ 5000 by omega) hb (show b ≤ 5000 by omega)
      have r1 := emod_bd (b * b) (show 0 < m by omega)
      have r2 := emod_bd (o * b) (show 0 < m by omega)
      have hd : Int.tdiv e 2 = e / 2 := Int.tdiv_eq_ediv_of_nonneg he
      by_cases h1 : e % 2 = 1
      · have := ih (b * b % m) (e / 2) (o * b % m) (by omega) (by omega) (by omega) r1.1 r1.2 r2.1 r2.2
        have e1 : o * b % m * (b * b % m) ^ (e / 2).toNat % m = o * b ^ e.toNat % m := by
          have ee : e.toNat = 2 * (e / 2).toNat + 1 := by omega
          rw [Int.mul_emod, Int.emod_emod, emod_pow, ← Int.mul_emod, ee, Int.pow_succ, Int.pow_mul, pow_two']
          congr 1; grind
        rw [e1] at this
        refine Ev.step (fun k => ?_) this
        rw [spec_l1Power.l0, if_pos (by omega), tm he, if_pos h1, if_neg (by omega), w64 (x := b * b) (by omega) (by omega), tm bb.1, hd, w64 (x := e / 2) (by omega) (by omega), w64 (x := o * b) (by omega) (by omega), tm ob.1]
      · have := ih (b * b % m) (e / 2) o (by omega) (by omega) (by omega) r1.1 r1.2 ho ho'
        have e1 : o * (b * b % m) ^ (e / 2).toNat % m = o * b ^ e.toNat % m := by
          have ee : e.toNat = 2 * (e / 2).toNat := by omega
          rw [Int.mul_emod, emod_pow, ← Int.mul_emod, ee, Int.pow_mul, pow_two']
        rw [e1] at this
        refine Ev.step (fun k => ?_) this
        rw [spec_l1Power.l0, if_pos (by omega), tm he, if_neg h1, if_neg (by omega), w64 (x := b * b) (by omega) (by omega), tm bb.1, hd, w64 (x := e / 2) (by omega) (by omega)]
theorem spec_l1Power_ev {n e m : Int} (he : 0 ≤ e) (he' : e ≤ 1000000000) (hm : 1 ≤ m) (hm' : m ≤ 5000) : Ev (fun k => spec_l1Power.f k n e m) (n ^ e.toNat % m) := by
  unfold spec_l1Power.f
  simp only [if_neg (show ¬ m = 0 by omega), spec_l1Mod_eq (n := n) (show 0 < m by omega) (by omega), Option.bind_some]
  have r1 := emod_bd n (show 0 < m by omega)
  have r2 := emod_bd 1 (show 0 < m by omega)
  have := spec_l1Power_l0 hm hm' e.toNat (n % m) e (1 % m) he (by omega) he' r1.1 r1.2 r2.1 r2.2
  have e1 : 1 % m * (n % m) ^ e.toNat % m = n ^ e.toNat % m := by
    rw [Int.mul_emod, Int.emod_emod, emod_pow, ← Int.mul_emod, Int.one_mul]
  rw [e1] at this
  exact this
theorem impl_residue_l0 {n p : Int} (hp : Pr p) (h2 : p ≠ 2) (hp' : p ≤ 5000) (hn : ¬ p ∣ n) : ∀ (d : Nat) (x : Int), 1 ≤ x → x + d = p / 2 + 1 → (∀ y, 1 ≤ y → y < x → y * y % p ≠ n % p) → Ev (fun k => impl_residue.l0 k p (n % p) x) (leg n p) := by
  have h0 := hp.1
  intro d
  induction d with
  | zero =>
    intro x hx hd h
    have : leg n p = -1 := leg_neg hn (fun hr => by
      obtain ⟨y, h1, h3, h4⟩ := (isRes_half hp h2 hn).1 hr
      exact h y h1 (by omega) h4)
    rw [this]
    refine Ev.step (f := fun _ => some (-1)) (fun k => ?_) (Ev.now _)
    rw [impl_residue.l0, tdiv_half (by omega), w64 (by omega) (by omega), if_neg (by omega)]
  | succ d ih =>
    intro x hx hd h
    have hb := mul_bd (show 0 ≤ x by omega) (show x ≤ 5000 by omega) (show 0 ≤ x by omega) (show x ≤ 5000 by omega)
    by_cases e : x * x % p = n % p
    · have : leg n p = 1 := leg_one hn ((isRes_half hp h2 hn).2 ⟨x, hx, by omega, e⟩)
      rw [this]
      refine Ev.step (f := fun _ => some 1) (fun k => ?_) (Ev.now _)
      rw [impl_residue.l0, tdiv_half (by omega), w64 (x := p / 2) (by omega) (by omega), if_pos (by omega), if_neg (by omega), w64 (by omega) (by omega), tm hb.1, if_pos e]
    · refine Ev.step (fun k => ?_) (ih (x + 1) (by omega) (by omega) fun y h1 h3 => ?_)
      · rw [impl_residue.l0, tdiv_half (by omega), w64 (x := p / 2) (by omega) (by omega), if_pos (by omega), if_neg (by omega), w64 (x := x * x) (by omega) (by omega), tm hb.1, if_neg e, w64 (by omega) (by omega)]
      · by_cases e' : y = x
        · subst e'; exact e
        · exact h y h1 (by omega)
theorem impl_residue_ev {n p : Int} (hp : Pr p) (h2 : p ≠ 2) (hp' : p ≤ 5000) : Ev (fun k => impl_residue.f k n p) (leg n p) := by
  have h0 := hp.1
  unfold impl_residue.f
  simp only [impl_rest_eq (n := n) (show 0 < p by omega) (by omega), Option.bind_some]
  by_cases h : n % p = 0
  · simp only [if_pos h]; rw [leg_zero (Int.dvd_of_emod_eq_zero h)]; exact Ev.now _
  · simp only [if_neg h]
    exact impl_residue_l0 hp h2 hp' (fun hd => h (Int.emod_eq_zero_of_dvd hd)) (p / 2).toNat 1 (by omega) (by omega) (fun y h1 h3 => by omega)
theorem spec_l1Residue_ev {n p : Int} (hp : Pr p) (h2 : p ≠ 2) (hp' : p ≤ 5000) : Ev (fun k => spec_l1Residue.f k n p) (leg n p) := by
  have h0 := hp.1
  obtain ⟨h, hh, h1⟩ := odd_prime hp h2
  unfold spec_l1Residue.f
  have e : Int.tdiv (p - 1) 2 = (h : Int) := by
    rw [tdiv_half (by omega)]; omega
  simp only [w64 (x := p - 1) (by omega) (by omega), e, w64 (x := (h : Int)) (by omega) (by omega)]
  refine Ev.bind (spec_l1Power_ev (n := n) (e := h) (by omega) (by omega) (by omega) hp') ?_
  rw [Int.toNat_natCast]
  have hm : leg n p % p = n ^ h % p := Int.emod_eq_emod_iff_emod_sub_eq_zero.2 (Int.emod_eq_zero_of_dvd (leg_euler hp h hh n))
  rw [← hm]
  rcases leg_cases n p with h | h | h
  · rw [h, Int.zero_emod]; simp only [if_neg (show ¬ (0 : Int) = p - 1 by omega)]; exact Ev.now _
  · rw [h, Int.emod_eq_of_lt (by omega) (by omega)]; simp only [if_neg (show ¬ (1 : Int) = p - 1 by omega)]; exact Ev.now _
  · have e2 : (-1 : Int) % p = p - 1 := by
      rw [← Int.add_emod_right, Int.emod_eq_of_lt (by omega) (by omega)]; omega
    rw [h, e2]; simp only [if_true]; exact Ev.now _
theorem impl_nonResidue_l0 {p : Int} (hp : Pr p) (h2 : p ≠ 2) (hp' : p ≤ 5000) : ∀ (d : Nat) (x : Int), 2 ≤ x → x + d = nrOf p → Ev (fun k => impl_nonResidue.l0 k p x) (nrOf p) := by
  obtain ⟨n1, n2, n3, n4⟩ := nr_spec hp h2
  intro d
  induction d with
  | zero =>
    intro x hx hd
    have : x = nrOf p := by omega
    subst this
    refine Ev.step (f := fun k => (impl_residue.f k (nrOf p) p).bind fun t => if t = 1 then impl_nonResidue.l0 k p (wrap64 (nrOf p + 1)) else some (nrOf p)) (fun k => ?_) (Ev.bind (impl_residue_ev hp h2 hp') ?_)
    · rw [impl_nonResidue.l0]
    · rw [n3]; simp only [if_neg (show ¬ (-1 : Int) = 1 by omega)]; exact Ev.now _
  | succ d ih =>
    intro x hx hd
    refine Ev.step (f := fun k => (impl_residue.f k x p).bind fun t => if t = 1 then impl_nonResidue.l0 k p (wrap64 (x + 1)) else some x) (fun k => ?_) (Ev.bind (impl_residue_ev hp h2 hp') ?_)
    · rw [impl_nonResidue.l0]
    · rw [n4 x hx (by omega), w64 (by omega) (by omega)]; simp only [if_true]; exact ih (x + 1) (by omega) (by omega)
theorem impl_nonResidue_ev {p : Int} (hp : Pr p) (h2 : p ≠ 2) (hp' : p ≤ 5000) : Ev (fun k => impl_nonResidue.f k p) (nrOf p) := by
  obtain ⟨n1, n2, n3, n4⟩ := nr_spec hp h2
  exact impl_nonResidue_l0 hp h2 hp' (nrOf p - 2).toNat 2 (by omega) (by omega)
theorem spec_l1None_l0 {p : Int} (hp : Pr p) (h2 : p ≠ 2) (hp' : p ≤ 5000) : ∀ (d : Nat) (x : Int), 2 ≤ x → x + d = nrOf p → Ev (fun k => spec_l1None.l0 k p x) (nrOf p) := by
  obtain ⟨n1, n2, n3, n4⟩ := nr_spec hp h2
  intro d
  induction d with
  | zero =>
    intro x hx hd
    have : x = nrOf p := by omega
    subst this
    refine Ev.step (f := fun k => (spec_l1Residue.f k (nrOf p) p).bind fun t => if t = -1 then some (nrOf p) else spec_l1None.l0 k p (wrap64 (nrOf p + 1))) (fun k => ?_) (Ev.bind (spec_l1Residue_ev hp h2 hp') ?_)
    · rw [spec_l1None.l0]
    · rw [n3]; simp only [if_true]; exact Ev.now _
  | succ d ih =>
    intro x hx hd
    refine Ev.step (f := fun k => (spec_l1Residue.f k x p).bind fun t => if t = -1 then some x else spec_l1None.l0 k p (wrap64 (x + 1))) (fun k => ?_) (Ev.bind (spec_l1Residue_ev hp h2 hp') ?_)
    · rw [spec_l1None.l0]
    · rw [n4 x hx (by omega), w64 (by omega) (by omega)]; simp only [if_neg (show ¬ (1 : Int) = -1 by omega)]; exact ih (x + 1) (by omega) (by omega)
theorem spec_l1None_ev {p : Int} (hp : Pr p) (h2 : p ≠ 2) (hp' : p ≤ 5000) : Ev (fun k => spec_l1None.f k p) (nrOf p) := by
  obtain ⟨n1, n2, n3, n4⟩ := nr_spec hp h2
  exact spec_l1None_l0 hp h2 hp' (nrOf p - 2).toNat 2 (by omega) (by omega)
theorem impl_namesAt_ev {p : Int} (hp : Pl p) (hp' : p ≤ 5000) : Ev (fun k => impl_namesAt.f k p) (namesL p) := by
  unfold impl_namesAt.f namesL
  rcases pl_cases hp with rfl | rfl | ⟨hq, h0, h2⟩
  · simp only [if_true]; exact Ev.now _
  · simp only [if_neg (show ¬ (2 : Int) = 0 by omega), if_true]; exact Ev.now _
  · simp only [if_neg h0, if_neg h2]
    obtain ⟨n1, n2, n3, n4⟩ := nr_spec hq h2
    have := mul_bd (show 0 ≤ p by have := hq.1; omega) hp' (show 0 ≤ nrOf p by omega) (show nrOf p ≤ 5000 by omega)
    refine Ev.bind (impl_nonResidue_ev hq h2 hp') ?_
    simp only [w64 (x := p * nrOf p) (by omega) (by omega)]; exact Ev.now _
theorem spec_l2Names_ev {p : Int} (hp : Pl p) (hp' : p ≤ 5000) : Ev (fun k => spec_l2Names.f k p) (namesL p) := by
  unfold spec_l2Names.f namesL
  rcases pl_cases hp with rfl | rfl | ⟨hq, h0, h2⟩
  · simp only [if_true]; exact Ev.now _
  · simp only [if_neg (show ¬ (2 : Int) = 0 by omega), if_true]; exact Ev.now _
  · simp only [if_neg h0, if_neg h2]
    obtain ⟨n1, n2, n3, n4⟩ := nr_spec hq h2
    have := mul_bd (show 0 ≤ p by have := hq.1; omega) hp' (show 0 ≤ nrOf p by omega) (show nrOf p ≤ 5000 by omega)
    refine Ev.bind (spec_l1None_ev hq h2 hp') ?_
    simp only [w64 (x := p * nrOf p) (by omega) (by omega)]; exact Ev.now _
theorem impl_localSquare_ev {n p : Int} (hp : Pl p) (hp' : p ≤ 5000) (hn : n ≠ 0) (hb : n.natAbs ≤ 1000000000000000) : Ev (fun k => impl_localSquare.f k n p) (lsq n p) := by
  unfold impl_localSquare.f
  rcases pl_cases hp with rfl | rfl | ⟨hq, h0, h2⟩
  · simp only [if_true]; rw [lsq_0]; exact Ev.now _
  · simp only [if_neg (show ¬ (2 : Int) = 0 by omega)]
    rw [lsq_2]
    refine Ev.bind (impl_split_ev (by omega) (by omega) hn hb) ?_
    simp only [tm (show (0 : Int) ≤ (vl n 2 : Int) by omega)]
    by_cases h : vl n 2 % 2 = 0
    · simp only [if_pos (show (vl n 2 : Int) % 2 = 0 by omega), if_pos h, if_true]
      rw [impl_rest_eq (by omega) (by omega), Option.bind_some, beq_decide]; exact Ev.now _
    · simp only [if_neg (show ¬ (vl n 2 : Int) % 2 = 0 by omega), if_neg h]; exact Ev.now _
  · simp only [if_neg h0]
    rw [lsq_p h0 h2]
    refine Ev.bind (impl_split_ev hq.1 (by omega) hn hb) ?_
    simp only [tm (show (0 : Int) ≤ (vl n p : Int) by omega)]
    by_cases h : vl n p % 2 = 0
    · simp only [if_pos (show (vl n p : Int) % 2 = 0 by omega), if_pos h, if_neg h2]
      refine Ev.bind (impl_residue_ev hq h2 hp') ?_
      rw [beq_decide]; exact Ev.now _
    · simp only [if_neg (show ¬ (vl n p : Int) % 2 = 0 by omega), if_neg h]; exact Ev.now _
theorem spec_l2Square_ev {n p : Int} (hp : Pl p) (hp' : p ≤ 5000) (hn : n ≠ 0) (hb : n.natAbs ≤ 1000000000000000) : Ev (fun k => spec_l2Square.f k n p) (lsq n p) := by
  unfold spec_l2Square.f
  rcases pl_cases hp with rfl | rfl | ⟨hq, h0, h2⟩
  · simp only [if_true]; rw [lsq_0]; exact Ev.now _
  · simp only [if_neg (show ¬ (2 : Int) = 0 by omega)]
    rw [lsq_2]
    refine Ev.bind (spec_l1Valuation_ev (by omega) (by omega) hn hb) ?_
    simp only [tm (show (0 : Int) ≤ (vl n 2 : Int) by omega), if_true]
    by_cases h : vl n 2 % 2 = 0
    · simp only [if_pos (show (vl n 2 : Int) % 2 = 0 by omega), if_pos h]
      rw [spec_l1Mod_eq (by omega) (by omega), Option.bind_some, beq_decide]; exact Ev.now _
    · simp only [if_neg (show ¬ (vl n 2 : Int) % 2 = 0 by omega), if_neg h]; exact Ev.now _
  · simp only [if_neg h0]
    rw [lsq_p h0 h2]
    refine Ev.bind (spec_l1Valuation_ev hq.1 (by omega) hn hb) ?_
    simp only [tm (show (0 : Int) ≤ (vl n p : Int) by omega), if_neg h2]
    by_cases h : vl n p % 2 = 0
    · simp only [if_pos (show (vl n p : Int) % 2 = 0 by omega), if_pos h]
      refine Ev.bind (spec_l1Residue_ev hq h2 hp') ?_
      rw [beq_decide]; exact Ev.now _
    · simp only [if_neg (show ¬ (vl n p : Int) % 2 = 0 by omega), if_neg h]; exact Ev.now _
theorem impl_nameOf_l0 {n p : Int} (hp : Pl p) (hp' : p ≤ 5000) (hn : n ≠ 0) (hb : -25000000 ≤ n) (hb' : n ≤ 25000000) : ∀ (l : List Int) (pre : List Int), pre ++ l = namesL p → nm n p ∈ l → Ev (fun k => impl_nameOf.l0 k n p (namesL p) ((namesL p).length : Int) pre.length) (nm n p) := by
  intro l
  induction l with
  | nil => intro pre _ h; simp at h
  | cons m l ih =>
    intro pre e hm
    have hlen : (namesL p).length = pre.length + (l.length + 1) := by rw [← e]; simp
    have hl8 : (namesL p).length ≤ 8 := by
      unfold namesL; split
      · simp
      · split <;> simp
    have hrd : rd (namesL p) (pre.length : Int) = m := by
      unfold rd
      rw [← e, Int.toNat_natCast, List.getD_eq_getElem?_getD, List.getElem?_append_right (Nat.le_refl _)]
      simp
    have hmem : m ∈ namesL p := by rw [← e]; simp
    have hmb := names_bd hp hp' hmem
    have hm0 := mem_ne hp hmem
    have hprod := abs_mul_bd hb hb' hmb.1 hmb.2
    have hsq := impl_localSquare_ev (n := n * m) hp hp' (Int.mul_ne_zero hn hm0) (by omega)
    refine Ev.step (f := fun k => (impl_localSquare.f k (n * m) p).bind fun t => if t = true then some m else impl_nameOf.l0 k n p (namesL p) ((namesL p).length : Int) ((pre.length : Int) + 1)) (fun k => ?_) (Ev.bind hsq ?_)
    · rw [impl_nameOf.l0, if_pos (by omega), if_pos (by omega), if_pos (by omega), hrd, w64 (x := n * m) (by omega) (by omega), w64 (x := (pre.length : Int) + 1) (by omega) (by omega)]
    · by_cases h : m = nm n p
      · simp only [if_pos ((lsq_name hp hn hmem).2 h)]; rw [h]; exact Ev.now _
      · simp only [if_neg (fun h' => h ((lsq_name hp hn hmem).1 h'))]
        have := ih (pre ++ [m]) (by rw [← e]; simp) (by
          rcases List.mem_cons.1 hm with h' | h'
          · exact absurd h'.symm h
          · exact h')
        rw [List.length_append] at this
        exact this
theorem impl_nameOf_ev {n p : Int} (hp : Pl p) (hp' : p ≤ 5000) (hn : n ≠ 0) (hb : -25000000 ≤ n) (hb' : n ≤ 25000000) : Ev (fun k => impl_nameOf.f k n p) (nm n p) := by
  unfold impl_nameOf.f
  exact Ev.bind (impl_namesAt_ev hp hp') (impl_nameOf_l0 hp hp' hn hb hb' (namesL p) [] rfl (nm_mem hp hn))
theorem spec_l2Name_l0 {n p : Int} (hp : Pl p) (hp' : p ≤ 5000) (hn : n ≠ 0) (hb : -25000000 ≤ n) (hb' : n ≤ 25000000) : ∀ (l : List Int) (pre : List Int), pre ++ l = namesL p → nm n p ∈ l → Ev (fun k => spec_l2Name.l0 k n p (namesL p) pre.length) (nm n p) := by
  intro l
  induction l with
  | nil => intro pre _ h; simp at h
  | cons m l ih =>
    intro pre e hm
    have hlen : (namesL p).length = pre.length + (l.length + 1) := by rw [← e]; simp
    have hl8 : (namesL p).length ≤ 8 := by
      unfold namesL; split
      · simp
      · split <;> simp
    have hrd : rd (namesL p) (pre.length : Int) = m := by
      unfold rd
      rw [← e, Int.toNat_natCast, List.getD_eq_getElem?_getD, List.getElem?_append_right (Nat.le_refl _)]
      simp
    have hmem : m ∈ namesL p := by rw [← e]; simp
    have hmb := names_bd hp hp' hmem
    have hm0 := mem_ne hp hmem
    have hprod := abs_mul_bd hb hb' hmb.1 hmb.2
    have hsq := spec_l2Square_ev (n := n * m) hp hp' (Int.mul_ne_zero hn hm0) (by omega)
    refine Ev.step (f := fun k => (spec_l2Square.f k (n * m) p).bind fun t => if t = true then some m else spec_l2Name.l0 k n p (namesL p) ((pre.length : Int) + 1)) (fun k => ?_) (Ev.bind hsq ?_)
    · rw [spec_l2Name.l0, if_pos (by omega), if_pos (by omega), hrd, w64 (x := n * m) (by omega) (by omega), w64 (x := (pre.length : Int) + 1) (by omega) (by omega)]
    · by_cases h : m = nm n p
      · simp only [if_pos ((lsq_name hp hn hmem).2 h)]; rw [h]; exact Ev.now _
      · simp only [if_neg (fun h' => h ((lsq_name hp hn hmem).1 h'))]
        have := ih (pre ++ [m]) (by rw [← e]; simp) (by
          rcases List.mem_cons.1 hm with h' | h'
          · exact absurd h'.symm h
          · exact h')
        rw [List.length_append] at this
        exact this
theorem spec_l2Name_ev {n p : Int} (hp : Pl p) (hp' : p ≤ 5000) (hn : n ≠ 0) (hb : -25000000 ≤ n) (hb' : n ≤ 25000000) : Ev (fun k => spec_l2Name.f k n p) (nm n p) := by
  unfold spec_l2Name.f
  exact Ev.bind (spec_l2Names_ev hp hp') (spec_l2Name_l0 hp hp' hn hb hb' (namesL p) [] rfl (nm_mem hp hn))
theorem spec_l2Ok_ev (n p : Int) : Ev (fun k => spec_l2Ok.f k n p) (decide (n ≠ 0) && numB n && plB p) := by
  unfold spec_l2Ok.f
  simp only [spec_l1Number_eq, Option.bind_some]
  by_cases h : numB n = true
  · simp only [if_pos h]
    by_cases h0 : n = 0
    · simp only [if_pos h0]; simp [h0]; exact Ev.now _
    · simp only [if_neg h0]
      refine Ev.bind (spec_PlaceValid_ev p) ?_
      simp [h0, h]; exact Ev.now _
  · simp only [if_neg h]; simp [h]; exact Ev.now _
theorem spec_LocalName_ev (n p : Int) : Ev (fun k => spec_LocalName.f k n p) (nameOf n p) := by
  unfold spec_LocalName.f nameOf
  refine Ev.bind (spec_l2Ok_ev n p) ?_
  by_cases h : (decide (n ≠ 0) && numB n && plB p) = true
  · simp only [if_pos h]
    simp only [Bool.and_eq_true, decide_eq_true_eq] at h
    rw [if_pos ⟨h.1.1, h.1.2, h.2⟩]
    have hn := numB_true.1 h.1.2
    have hp := plB_pl h.2
    exact Ev.bind (spec_l2Name_ev hp.1 hp.2.2 h.1.1 (by omega) (by omega)) (Ev.now _)
  · simp only [if_neg h]
    rw [if_neg (fun h' => h (by simp [h'.1, h'.2.1, h'.2.2]))]; exact Ev.now _
theorem impl_LocalName_ev (n p : Int) : Ev (fun k => impl_LocalName.f k n p) (nameOf n p) := by
  unfold impl_LocalName.f nameOf
  simp only [impl_isNumber_eq, Option.bind_some]
  by_cases h0 : n = 0
  · simp only [if_pos h0]; rw [if_neg (fun h => h.1 h0)]; exact Ev.now _
  · simp only [if_neg h0]
    by_cases h : numB n = true
    · simp only [if_pos h]
      refine Ev.bind (impl_PlaceValid_ev p) ?_
      by_cases hpl : plB p = true
      · simp only [if_pos hpl]; rw [if_pos ⟨h0, h, hpl⟩]
        have hn := numB_true.1 h
        have hp := plB_pl hpl
        exact Ev.bind (impl_nameOf_ev hp.1 hp.2.2 h0 (by omega) (by omega)) (Ev.now _)
      · simp only [if_neg hpl]; rw [if_neg (fun h => hpl h.2.2)]; exact Ev.now _
    · simp only [if_neg h]; rw [if_neg (fun h' => h h'.2.1)]; exact Ev.now _
theorem rd_pre (p : List Int) (a : Int) (l : List Int) : rd (p ++ a :: l) (p.length : Int) = a := by
  unfold rd
  rw [Int.toNat_natCast, List.getD_eq_getElem?_getD, List.getElem?_append_right (Nat.le_refl _)]
  simp
theorem set_pre (p : List Int) (a : Int) (l : List Int) (c : Int) : (p ++ a :: l).set ((p.length : Int)).toNat c = p ++ c :: l := by
  rw [Int.toNat_natCast, List.set_append_right _ _ (Nat.le_refl _)]
  simp
theorem FnExactLocalName : laws_FnExactLocalName.Pure := by
  intro n p _ _
  refine Ev.rounds ?_
  unfold laws_FnExactLocalName.f
  refine Ev.bind (spec_LocalName_ev n p) (Ev.bind (impl_LocalName_ev n p) ?_)
  rw [if_pos rfl, bne_self_eq_false, if_neg (by simp)]; exact Ev.now _

end Go.Proofs.Ytpcocojkhcokmaa.Pure
