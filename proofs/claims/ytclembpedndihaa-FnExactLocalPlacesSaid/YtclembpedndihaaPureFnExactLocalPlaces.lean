/- The program's LocalPlaces and the reference's answer alike at every integer, and each call's list is its own.
No condition beyond the given statement. The printed functions are tied to plain arithmetic one by one; the law follows at the end. -/
import Derived.Test.YtclembpedndihaaOwnFnExactLocalPlacesx6
import Derived.Test.YtclembpedndihaaM14
set_option linter.unusedVariables false
set_option linter.unusedSimpArgs false
namespace Go.Proofs.Ytclembpedndihaa.Pure
open Go.RowKit Go.Proofs.Ytclembpedndihaa.PFnExactLocalPlaces Go.Proofs.YtclembpedndihaaW.PrintWords Go.Proofs.YtclembpedndihaaW.PrintLast Go.Proofs.YtclembpedndihaaW.PrintMore Go.Proofs.LG

theorem spec_l6In_eq (a b c : Int) : spec_l6In.f a b c = some (decide (b ≤ a ∧ a ≤ c)) := by
  unfold spec_l6In.f
  by_cases h : a ≥ b
  · rw [if_pos h]; congr 1; rw [decide_eq_decide]; omega
  · rw [if_neg h]; congr 1; symm; rw [decide_eq_false_iff_not]; omega
theorem spec_l1Number_eq (a : Int) : spec_l1Number.f a = some (numB a) := by
  unfold spec_l1Number.f; rw [spec_l6In_eq]; rfl
theorem impl_isNumber_eq (a : Int) : impl_isNumber.f a = some (numB a) := by
  unfold impl_isNumber.f numB
  by_cases h : a ≥ -5000
  · rw [if_pos h]; congr 1; rw [decide_eq_decide]; omega
  · rw [if_neg h]; congr 1; symm; rw [decide_eq_false_iff_not]; omega
theorem spec_l1Mod_eq {n m : Int} (h0 : 0 < m) (h1 : m ≤ 1000000000) : spec_l1Mod.f n m = some (n % m) := by
  unfold spec_l1Mod.f; rw [if_neg (by omega), rest_form h0 h1]
theorem impl_rest_eq {n m : Int} (h0 : 0 < m) (h1 : m ≤ 1000000000) : impl_rest.f n m = some (n % m) := by
  unfold impl_rest.f; rw [if_neg (by omega), rest_form h0 h1]
theorem spec_l1Valuation_l0 {p : Int} (hp : 2 ≤ p) (hp' : p ≤ 1000000000000000) : ∀ (f : Nat) (n : Int), n ≠ 0 → n.natAbs ≤ f → n.natAbs ≤ 1000000000000000 → ∀ c : Int, 0 ≤ c → c + f ≤ 2000000000000000 → Ev (fun k => spec_l1Valuation.l0 k n p c) (c + (spl f n p).1, (spl f n p).2) := by
  intro f
  induction f with
  | zero => intro n hn hf; omega
  | succ f ih =>
    intro n hn hf hb c hc hcf
    rw [spl]
    by_cases h : n % p = 0
    · obtain ⟨h1, h2, h3⟩ := div_smaller hp hn h
      rw [if_pos h]
      have := ih (n / p) h1 (by omega) (by omega) (c + 1) (by omega) (by omega)
      have e : c + (((spl f (n / p) p).1 + 1 : Nat) : Int) = c + 1 + ((spl f (n / p) p).1 : Int) := by omega
      show Ev (fun k => spec_l1Valuation.l0 k n p c) (c + (((spl f (n / p) p).1 + 1 : Nat) : Int), (spl f (n / p) p).2)
      rw [e]
      refine Ev.step (fun k => ?_) this
      rw [spec_l1Valuation.l0, if_neg (by omega), if_pos (tm_zero.2 h), td_dvd h, w64 (by omega) (by omega), w64 (by omega) (by omega)]
    · rw [if_neg h]
      refine Ev.step (f := fun _ => some (c, n)) (fun k => ?_) ?_
      · rw [spec_l1Valuation.l0, if_neg (by omega), if_neg (fun e => h (tm_zero.1 e))]
      · have e : c + ((0 : Nat) : Int) = c := by omega
        show Ev _ (c + ((0 : Nat) : Int), n)
        rw [e]; exact Ev.now _
theorem spec_l1Valuation_ev {n p : Int} (hp : 2 ≤ p) (hp' : p ≤ 1000000000000000) (hn : n ≠ 0) (hb : n.natAbs ≤ 1000000000000000) : Ev (fun k => spec_l1Valuation.f k n p) ((vl n p : Int), un n p) := by
  have := spec_l1Valuation_l0 hp hp' n.natAbs n hn (Nat.le_refl _) hb 0 (by omega) (by omega)
  rw [Int.zero_add] at this
  exact this
theorem impl_split_l0 {p : Int} (hp : 2 ≤ p) (hp' : p ≤ 1000000000000000) : ∀ (f : Nat) (n : Int), n ≠ 0 → n.natAbs ≤ f → n.natAbs ≤ 1000000000000000 → ∀ c : Int, 0 ≤ c → c + f ≤ 2000000000000000 → Ev (fun k => impl_split.l0 k n p c) (c + (spl f n p).1, (spl f n p).2) := by
  intro f
  induction f with
  | zero => intro n hn hf; omega
  | succ f ih =>
    intro n hn hf hb c hc hcf
    rw [spl]
    by_cases h : n % p = 0
    · obtain ⟨h1, h2, h3⟩ := div_smaller hp hn h
      rw [if_pos h]
      have := ih (n / p) h1 (by omega) (by omega) (c + 1) (by omega) (by omega)
      have e : c + (((spl f (n / p) p).1 + 1 : Nat) : Int) = c + 1 + ((spl f (n / p) p).1 : Int) := by omega
      show Ev (fun k => impl_split.l0 k n p c) (c + (((spl f (n / p) p).1 + 1 : Nat) : Int), (spl f (n / p) p).2)
      rw [e]
      refine Ev.step (fun k => ?_) this
      rw [impl_split.l0, if_neg (by omega), if_pos (tm_zero.2 h), td_dvd h, w64 (by omega) (by omega), w64 (by omega) (by omega)]
    · rw [if_neg h]
      refine Ev.step (f := fun _ => some (c, n)) (fun k => ?_) ?_
      · rw [impl_split.l0, if_neg (by omega), if_neg (fun e => h (tm_zero.1 e))]
      · have e : c + ((0 : Nat) : Int) = c := by omega
        show Ev _ (c + ((0 : Nat) : Int), n)
        rw [e]; exact Ev.now _
theorem impl_split_ev {n p : Int} (hp : 2 ≤ p) (hp' : p ≤ 1000000000000000) (hn : n ≠ 0) (hb : n.natAbs ≤ 1000000000000000) : Ev (fun k => impl_split.f k n p) ((vl n p : Int), un n p) := by
  have := impl_split_l0 hp hp' n.natAbs n hn (Nat.le_refl _) hb 0 (by omega) (by omega)
  rw [Int.zero_add] at this
  exact this
theorem spec_l1Power_l0 {m : Int} (hm : 1 ≤ m) (hm' : m ≤ 5000) : ∀ (f : Nat) (b e o : Int), 0 ≤ e → e ≤ f → e ≤ 1000000000 → 0 ≤ b → b < m → 0 ≤ o → o < m → Ev (fun k => spec_l1Power.l0 k b e m o) (o * b ^ e.toNat % m) := by
  intro f
  induction f with
  | zero =>
    intro b e o he hf hE hb hb' ho ho'
    have : e = 0 := by omega
    subst this
    have e1 : o * b ^ (0 : Int).toNat % m = o := by
      show o * b ^ 0 % m = o
      rw [Int.pow_zero, Int.mul_one, Int.emod_eq_of_lt ho ho']
    rw [e1]
    refine Ev.step (f := fun _ => some o) (fun k => ?_) (Ev.now _)
    rw [spec_l1Power.l0, if_neg (by omega)]
  | succ f ih =>
    intro b e o he hf hE hb hb' ho ho'
    by_cases h0 : e = 0
    · subst h0
      have e1 : o * b ^ (0 : Int).toNat % m = o := by
        show o * b ^ 0 % m = o
        rw [Int.pow_zero, Int.mul_one, Int.emod_eq_of_lt ho ho']
      rw [e1]
      refine Ev.step (f := fun _ => some o) (fun k => ?_) (Ev.now _)
      rw [spec_l1Power.l0, if_neg (by omega)]
    · have bb := mul_bd hb (show b ≤ 5000 by omega) hb (show b ≤ 5000 by omega)
      have ob := mul_bd ho (show o ≤ 5000 by omega) hb (show b ≤ 5000 by omega)
      have r1 := emod_bd (b * b) (show 0 < m by omega)
      have r2 := emod_bd (o * b) (show 0 < m by omega)
      have hd : Int.tdiv e 2 = e / 2 := Int.tdiv_eq_ediv_of_nonneg he
      by_cases h1 : e % 2 = 1
      · have := ih (b * b % m) (e / 2) (o * b % m) (by omega) (by omega) (by omega) r1.1 r1.2 r2.1 r2.2
        have e1 : o * b % m * (b * b % m) ^ (e / 2).toNat % m = o * b ^ e.toNat % m := by
          have ee : e.toNat = 2 * (e / 2).toNat + 1 := by omega
          rw [Int.mul_emod, Int.emod_emod, emod_pow, ← Int.mul_emod, ee, Int.pow_succ, Int.pow_mul, pow_two']
          congr 1; grind
        rw [e1] at this
        refine Ev.step (fun k => ?_) this
        rw [spec_l1Power.l0, if_pos (by omega), tm he, if_pos h1, if_neg (by omega), w64 (x := b * b) (by omega) (by omega), tm bb.1, hd, w64 (x := e / 2) (by omega) (by omega), w64 (x := o * b) (by omega) (by omega), tm ob.1]
      · have := ih (b * b % m) (e / 2) o (by omega) (by omega) (by omega) r1.1 r1.2 ho ho'
        have e1 : o * (b * b % m) ^ (e / 2).toNat % m = o * b ^ e.toNat % m := by
          have ee : e.toNat = 2 * (e / 2).toNat := by omega
          rw [Int.mul_emod, emod_pow, ← Int.mul_emod, ee, Int.pow_mul, pow_two']
        rw [e1] at this
        refine Ev.step (fun k => ?_) this
        rw [spec_l1Power.l0, if_pos (by omega), tm he, if_neg h1, if_neg (by omega), w64 (x := b * b) (by omega) (by omega), tm bb.1, hd, w64 (x := e / 2) (by omega) (by omega)]
theorem spec_l1Power_ev {n e m : Int} (he : 0 ≤ e) (he' : e ≤ 1000000000) (hm : 1 ≤ m) (hm' : m ≤ 5000) : Ev (fun k => spec_l1Power.f k n e m) (n ^ e.toNat % m) := by
  unfold spec_l1Power.f
  simp only [if_neg (show ¬ m = 0 by omega), spec_l1Mod_eq (n := n) (show 0 < m by omega) (by omega), Option.bind_some]
  have r1 := emod_bd n (show 0 < m by omega)
  have r2 := emod_bd 1 (show 0 < m by omega)
  have := spec_l1Power_l0 hm hm' e.toNat (n % m) e (1 % m) he (by omega) he' r1.1 r1.2 r2.1 r2.2
  have e1 : 1 % m * (n % m) ^ e.toNat % m = n ^ e.toNat % m := by
    rw [Int.mul_emod, Int.emod_emod, emod_pow, ← Int.mul_emod, Int.one_mul]
  rw [e1] at this
  exact this
theorem spec_l1Size_eq {n : Int} (h : -1000000000000 ≤ n) (h' : n ≤ 1000000000000) : spec_l1Size.f n = some (n.natAbs : Int) := by
  unfold spec_l1Size.f mx
  rw [w64 (by omega) (by omega)]
  congr 1
  split <;> omega
theorem impl_size_eq {n : Int} (h : -1000000000000 ≤ n) (h' : n ≤ 1000000000000) : impl_size.f n = some (n.natAbs : Int) := by
  unfold impl_size.f mx
  rw [w64 (by omega) (by omega)]
  congr 1
  split <;> omega
theorem impl_primesOf_l0 : ∀ (f : Nat) (n : Int) (acc : List Int) (p : Int), 1 ≤ n → n ≤ 1000000 → 2 ≤ p → p ≤ 1000002 → n < f + p → (acc.length : Int) ≤ p → Ev (fun k => impl_primesOf.l0 k n acc p) (pfl f n acc p) := by
  intro f
  have last : ∀ (n : Int) (acc : List Int) (p : Int), 1 ≤ n → n ≤ 1000000 → 2 ≤ p → p ≤ 1000002 → n < p * p → (acc.length : Int) ≤ p → Ev (fun k => impl_primesOf.l0 k n acc p) (if n > 1 then acc ++ [n] else acc) := by
    intro n acc p hn hn' hp hp' hlt hl
    have hb := mul_bd (show 0 ≤ p by omega) hp' (show 0 ≤ p by omega) hp'
    refine Ev.step (f := fun _ => some (if n > 1 then acc ++ [n] else acc)) (fun k => ?_) (Ev.now _)
    rw [impl_primesOf.l0, w64 (by omega) (by omega), if_neg (by omega)]
    by_cases h1 : n > 1
    · rw [if_pos h1, if_pos h1, if_pos (by omega)]
    · rw [if_neg h1, if_neg h1]
  induction f with
  | zero =>
    intro n acc p hn hn' hp hp' hf hl
    rw [pfl]
    exact last n acc p hn hn' hp hp' (sq_gt hp (by omega)) hl
  | succ f ih =>
    intro n acc p hn hn' hp hp' hf hl
    have hb := mul_bd (show 0 ≤ p by omega) hp' (show 0 ≤ p by omega) hp'
    rw [pfl]
    by_cases hle : p * p ≤ n
    · rw [if_pos hle]
      have hpn : p ≤ n := by have := sq_gt hp (Int.le_refl p); omega
      by_cases hm : n % p = 0
      · rw [if_pos hm]
        have hu := un_pos hp hn
        refine Ev.step (f := fun k => (impl_split.f k n p).bind fun bt => impl_primesOf.l0 k bt.2 (acc ++ [p]) (p + 1)) (fun k => ?_) (Ev.bind (impl_split_ev hp (by omega) (by omega) (by omega)) (ih (un n p) (acc ++ [p]) (p + 1) hu.1 (by omega) (by omega) (by omega) (by omega) (by simp; omega)))
        rw [impl_primesOf.l0, w64 (x := p * p) (by omega) (by omega), if_pos hle, if_neg (by omega), if_pos (tm_zero.2 hm), if_pos (by omega), w64 (x := p + 1) (by omega) (by omega)]
      · rw [if_neg hm]
        refine Ev.step (fun k => ?_) (ih n acc (p + 1) hn hn' (by omega) (by omega) (by omega) (by omega))
        rw [impl_primesOf.l0, w64 (x := p * p) (by omega) (by omega), if_pos hle, if_neg (by omega), if_neg (fun e => hm (tm_zero.1 e)), w64 (x := p + 1) (by omega) (by omega)]
    · rw [if_neg hle]
      exact last n acc p hn hn' hp hp' (by omega) hl
theorem impl_primesOf_ev {n : Int} (hn : n ≠ 0) (hb : n.natAbs ≤ 1000000) : Ev (fun k => impl_primesOf.f k n) (primesL n) := by
  unfold impl_primesOf.f
  simp only [impl_size_eq (n := n) (by omega) (by omega), Option.bind_some]
  exact impl_primesOf_l0 n.natAbs n.natAbs [] 2 (by omega) (by omega) (by omega) (by omega) (by omega) (by simp)
theorem impl_residue_l0 {n p : Int} (hp : Pr p) (h2 : p ≠ 2) (hp' : p ≤ 5000) (hn : ¬ p ∣ n) : ∀ (d : Nat) (x : Int), 1 ≤ x → x + d = p / 2 + 1 → (∀ y, 1 ≤ y → y < x → y * y % p ≠ n % p) → Ev (fun k => impl_residue.l0 k p (n % p) x) (leg n p) := by
  have h0 := hp.1
  intro d
  induction d with
  | zero =>
    intro x hx hd h
    have : leg n p = -1 := leg_neg hn (fun hr => by
      obtain ⟨y, h1, h3, h4⟩ := (isRes_half hp h2 hn).1 hr
      exact h y h1 (by omega) h4)
    rw [this]
    refine Ev.step (f := fun _ => some (-1)) (fun k => ?_) (Ev.now _)
    rw [impl_residue.l0, tdiv_half (by omega), w64 (by omega) (by omega), if_neg (by omega)]
  | succ d ih =>
    intro x hx hd h
    have hb := mul_bd (show 0 ≤ x by omega) (show x ≤ 5000 by omega) (show 0 ≤ x by omega) (show x ≤ 5000 by omega)
    by_cases e : x * x % p = n % p
    · have : leg n p = 1 := leg_one hn ((isRes_half hp h2 hn).2 ⟨x, hx, by omega, e⟩)
      rw [this]
      refine Ev.step (f := fun _ => some 1) (fun k => ?_) (Ev.now _)
      rw [impl_residue.l0, tdiv_half (by omega), w64 (x := p / 2) (by omega) (by omega), if_pos (by omega), if_neg (by omega), w64 (by omega) (by omega), tm hb.1, if_pos e]
    · refine Ev.step (fun k => ?_) (ih (x + 1) (by omega) (by omega) fun y h1 h3 => ?_)
      · rw [impl_residue.l0, tdiv_half (by omega), w64 (x := p / 2) (by omega) (by omega), if_pos (by omega), if_neg (by omega), w64 (x := x * x) (by omega) (by omega), tm hb.1, if_neg e, w64 (by omega) (by omega)]
      · by_cases e' : y = x
        · subst e'; exact e
        · exact h y h1 (by omega)
theorem impl_residue_ev {n p : Int} (hp : Pr p) (h2 : p ≠ 2) (hp' : p ≤ 5000) : Ev (fun k => impl_residue.f k n p) (leg n p) := by
  have h0 := hp.1
  unfold impl_residue.f
  simp only [impl_rest_eq (n := n) (show 0 < p by omega) (by omega), Option.bind_some]
  by_cases h : n % p = 0
  · simp only [if_pos h]; rw [leg_zero (Int.dvd_of_emod_eq_zero h)]; exact Ev.now _
  · simp only [if_neg h]
    exact impl_residue_l0 hp h2 hp' (fun hd => h (Int.emod_eq_zero_of_dvd hd)) (p / 2).toNat 1 (by omega) (by omega) (fun y h1 h3 => by omega)
theorem spec_l1Residue_ev {n p : Int} (hp : Pr p) (h2 : p ≠ 2) (hp' : p ≤ 5000) : Ev (fun k => spec_l1Residue.f k n p) (leg n p) := by
  have h0 := hp.1
  obtain ⟨h, hh, h1⟩ := odd_prime hp h2
  unfold spec_l1Residue.f
  have e : Int.tdiv (p - 1) 2 = (h : Int) := by
    rw [tdiv_half (by omega)]; omega
  simp only [w64 (x := p - 1) (by omega) (by omega), e, w64 (x := (h : Int)) (by omega) (by omega)]
  refine Ev.bind (spec_l1Power_ev (n := n) (e := h) (by omega) (by omega) (by omega) hp') ?_
  rw [Int.toNat_natCast]
  have hm : leg n p % p = n ^ h % p := Int.emod_eq_emod_iff_emod_sub_eq_zero.2 (Int.emod_eq_zero_of_dvd (leg_euler hp h hh n))
  rw [← hm]
  rcases leg_cases n p with h | h | h
  · rw [h, Int.zero_emod]; simp only [if_neg (show ¬ (0 : Int) = p - 1 by omega)]; exact Ev.now _
  · rw [h, Int.emod_eq_of_lt (by omega) (by omega)]; simp only [if_neg (show ¬ (1 : Int) = p - 1 by omega)]; exact Ev.now _
  · have e2 : (-1 : Int) % p = p - 1 := by
      rw [← Int.add_emod_right, Int.emod_eq_of_lt (by omega) (by omega)]; omega
    rw [h, e2]; simp only [if_true]; exact Ev.now _
theorem impl_localSquare_ev {n p : Int} (hp : Pl p) (hp' : p ≤ 5000) (hn : n ≠ 0) (hb : n.natAbs ≤ 1000000000000000) : Ev (fun k => impl_localSquare.f k n p) (lsq n p) := by
  unfold impl_localSquare.f
  rcases pl_cases hp with rfl | rfl | ⟨hq, h0, h2⟩
  · simp only [if_true]; rw [lsq_0]; exact Ev.now _
  · simp only [if_neg (show ¬ (2 : Int) = 0 by omega)]
    rw [lsq_2]
    refine Ev.bind (impl_split_ev (by omega) (by omega) hn hb) ?_
    simp only [tm (show (0 : Int) ≤ (vl n 2 : Int) by omega)]
    by_cases h : vl n 2 % 2 = 0
    · simp only [if_pos (show (vl n 2 : Int) % 2 = 0 by omega), if_pos h, if_true]
      rw [impl_rest_eq (by omega) (by omega), Option.bind_some, beq_decide]; exact Ev.now _
    · simp only [if_neg (show ¬ (vl n 2 : Int) % 2 = 0 by omega), if_neg h]; exact Ev.now _
  · simp only [if_neg h0]
    rw [lsq_p h0 h2]
    refine Ev.bind (impl_split_ev hq.1 (by omega) hn hb) ?_
    simp only [tm (show (0 : Int) ≤ (vl n p : Int) by omega)]
    by_cases h : vl n p % 2 = 0
    · simp only [if_pos (show (vl n p : Int) % 2 = 0 by omega), if_pos h, if_neg h2]
      refine Ev.bind (impl_residue_ev hq h2 hp') ?_
      rw [beq_decide]; exact Ev.now _
    · simp only [if_neg (show ¬ (vl n p : Int) % 2 = 0 by omega), if_neg h]; exact Ev.now _
theorem spec_l2Square_ev {n p : Int} (hp : Pl p) (hp' : p ≤ 5000) (hn : n ≠ 0) (hb : n.natAbs ≤ 1000000000000000) : Ev (fun k => spec_l2Square.f k n p) (lsq n p) := by
  unfold spec_l2Square.f
  rcases pl_cases hp with rfl | rfl | ⟨hq, h0, h2⟩
  · simp only [if_true]; rw [lsq_0]; exact Ev.now _
  · simp only [if_neg (show ¬ (2 : Int) = 0 by omega)]
    rw [lsq_2]
    refine Ev.bind (spec_l1Valuation_ev (by omega) (by omega) hn hb) ?_
    simp only [tm (show (0 : Int) ≤ (vl n 2 : Int) by omega), if_true]
    by_cases h : vl n 2 % 2 = 0
    · simp only [if_pos (show (vl n 2 : Int) % 2 = 0 by omega), if_pos h]
      rw [spec_l1Mod_eq (by omega) (by omega), Option.bind_some, beq_decide]; exact Ev.now _
    · simp only [if_neg (show ¬ (vl n 2 : Int) % 2 = 0 by omega), if_neg h]; exact Ev.now _
  · simp only [if_neg h0]
    rw [lsq_p h0 h2]
    refine Ev.bind (spec_l1Valuation_ev hq.1 (by omega) hn hb) ?_
    simp only [tm (show (0 : Int) ≤ (vl n p : Int) by omega), if_neg h2]
    by_cases h : vl n p % 2 = 0
    · simp only [if_pos (show (vl n p : Int) % 2 = 0 by omega), if_pos h]
      refine Ev.bind (spec_l1Residue_ev hq h2 hp') ?_
      rw [beq_decide]; exact Ev.now _
    · simp only [if_neg (show ¬ (vl n p : Int) % 2 = 0 by omega), if_neg h]; exact Ev.now _
theorem rd_pre (p : List Int) (a : Int) (l : List Int) : rd (p ++ a :: l) (p.length : Int) = a := by
  unfold rd
  rw [Int.toNat_natCast, List.getD_eq_getElem?_getD, List.getElem?_append_right (Nat.le_refl _)]
  simp
theorem set_pre (p : List Int) (a : Int) (l : List Int) (c : Int) : (p ++ a :: l).set ((p.length : Int)).toNat c = p ++ c :: l := by
  rw [Int.toNat_natCast, List.set_append_right _ _ (Nat.le_refl _)]
  simp
theorem laws_eqIntS_l0 {r : Bool} : ∀ (l1 l2 p1 p2 : List Int), p1.length = p2.length → l1.length = l2.length → (p1 ++ l1).length ≤ 1000000 → (decide (l1 = l2)) = r → Ev (fun k => laws_eqIntS.l0 k (p1 ++ l1) (p2 ++ l2) p1.length) r := by
  intro l1
  induction l1 with
  | nil =>
    intro l2 p1 p2 hp hl hb hr
    have : l2 = [] := List.length_eq_zero_iff.1 hl.symm
    subst this
    refine Ev.step (f := fun _ => some true) (fun k => ?_) ?_
    · rw [laws_eqIntS.l0, if_neg (by simp)]
    · rw [← hr]; simp; exact Ev.now _
  | cons a l1 ih =>
    intro l2 p1 p2 hp hl hb hr
    match l2 with
    | [] => simp at hl
    | b :: l2 =>
      simp only [List.length_append, List.length_cons] at hb hl
      by_cases e : a = b
      · have := ih l2 (p1 ++ [a]) (p2 ++ [b]) (by simp [hp]) (by omega) (by simp; omega) (by rw [← hr]; simp [e])
        simp only [List.append_assoc, List.singleton_append, List.length_append, List.length_singleton] at this
        refine Ev.step (fun k => ?_) this
        rw [laws_eqIntS.l0, if_pos (by simp; omega), if_pos (by omega), if_pos (by rw [hp]; simp; omega), rd_pre, hp, rd_pre, if_pos e, w64 (by omega) (by omega)]
        rfl
      · refine Ev.step (f := fun _ => some false) (fun k => ?_) ?_
        · rw [laws_eqIntS.l0, if_pos (by simp; omega), if_pos (by omega), if_pos (by rw [hp]; simp; omega), rd_pre, hp, rd_pre, if_neg e]
        · rw [← hr]; simp [e]; exact Ev.now _
theorem laws_eqIntS_ev {l1 l2 : List Int} (hb : l1.length ≤ 1000000) : Ev (fun k => laws_eqIntS.f k l1 l2) (decide (l1 = l2)) := by
  unfold laws_eqIntS.f
  by_cases h : (l1.length : Int) = (l2.length : Int)
  · simp only [if_pos h]
    exact laws_eqIntS_l0 l1 l2 [] [] rfl (by omega) (by simpa using hb) rfl
  · simp only [if_neg h]
    rw [decide_eq_false (fun e => h (by rw [e]))]; exact Ev.now _
theorem laws_markIntS_l0 : ∀ (l p : List Int) (c : Int), (p ++ l).length ≤ 1000000 → 0 ≤ c → c + l.length ≤ 1000000000 → Ev (fun k => laws_markIntS.l0 k (p ++ l) c p.length) (c + l.length, p ++ marks l.length c) := by
  intro l
  induction l with
  | nil =>
    intro p c hb hc hc'
    refine Ev.step (f := fun _ => some (c, p ++ [])) (fun k => ?_) ?_
    · rw [laws_markIntS.l0, if_neg (by simp)]
    · show Ev _ (c + ((0 : Nat) : Int), p ++ [])
      rw [show c + ((0 : Nat) : Int) = c by omega]; exact Ev.now _
  | cons a l ih =>
    intro p c hb hc hc'
    simp only [List.length_append, List.length_cons] at hb hc'
    have := ih (p ++ [c]) (c + 1) (by simp; omega) (by omega) (by omega)
    simp only [List.append_assoc, List.singleton_append, List.length_append, List.length_singleton] at this
    rw [List.length_cons, marks, show c + ((l.length + 1 : Nat) : Int) = c + 1 + (l.length : Int) by omega]
    refine Ev.step (fun k => ?_) this
    rw [laws_markIntS.l0, if_pos (by simp; omega), if_pos (by omega), set_pre, w64 (by omega) (by omega), w64 (by omega) (by omega)]
    rfl
theorem laws_markIntS_ev {l : List Int} (hb : l.length ≤ 1000000) : Ev (fun k => laws_markIntS.f k l 1) (1 + l.length, marks l.length 1) :=
  laws_markIntS_l0 l [] 1 (by simpa using hb) (by omega) (by omega)
theorem laws_heldIntS_l0 : ∀ (n : Nat) (p : List Int) (c : Int), p.length + n ≤ 1000000 → 0 ≤ c → c + n ≤ 1000000000 → Ev (fun k => laws_heldIntS.l0 k (p ++ marks n c) c p.length) (c + n) := by
  intro n
  induction n with
  | zero =>
    intro p c hb hc hc'
    refine Ev.step (f := fun _ => some c) (fun k => ?_) ?_
    · rw [laws_heldIntS.l0, if_neg (by simp [marks])]
    · rw [show c + ((0 : Nat) : Int) = c by omega]; exact Ev.now _
  | succ n ih =>
    intro p c hb hc hc'
    have := ih (p ++ [c]) (c + 1) (by simp; omega) (by omega) (by omega)
    simp only [List.append_assoc, List.singleton_append, List.length_append, List.length_singleton] at this
    rw [marks, show c + ((n + 1 : Nat) : Int) = c + 1 + (n : Int) by omega]
    refine Ev.step (fun k => ?_) this
    rw [laws_heldIntS.l0, if_pos (by simp; omega), if_pos (by omega), rd_pre, if_pos rfl, w64 (by omega) (by omega), w64 (by omega) (by omega)]
    rfl
theorem laws_heldIntS_ev {n : Nat} (hb : n ≤ 1000000) : Ev (fun k => laws_heldIntS.f k (marks n 1) 1) (1 + n) :=
  laws_heldIntS_l0 n [] 1 (by simpa using hb) (by omega) (by omega)
theorem spec_l1Primes_l1 {p : Int} (hp : 2 ≤ p) (hp' : p ≤ 1000002) (acc : List Int) {r : List Int} : ∀ (f : Nat) (n : Int), n ≠ 0 → n.natAbs ≤ f → n.natAbs ≤ 1000000 → Ev (fun k => spec_l1Primes.l0 k (spl f n p).2 acc (p + 1)) r → Ev (fun k => spec_l1Primes.l1 k n acc p) r := by
  intro f
  induction f with
  | zero => intro n hn hf; omega
  | succ f ih =>
    intro n hn hf hb hr
    rw [spl] at hr
    by_cases h : n % p = 0
    · obtain ⟨h1, h2, h3⟩ := div_smaller hp hn h
      rw [if_pos h] at hr
      refine Ev.step (fun k => ?_) (ih (n / p) h1 (by omega) (by omega) hr)
      rw [spec_l1Primes.l1, if_neg (by omega), if_pos (tm_zero.2 h), td_dvd h, w64 (by omega) (by omega)]
    · rw [if_neg h] at hr
      refine Ev.step (fun k => ?_) hr
      rw [spec_l1Primes.l1, if_neg (by omega), if_neg (fun e => h (tm_zero.1 e)), w64 (by omega) (by omega)]
theorem spec_l1Primes_l0 : ∀ (f : Nat) (n : Int) (acc : List Int) (p : Int), 1 ≤ n → n ≤ 1000000 → 2 ≤ p → p ≤ 1000002 → n < f + p → (acc.length : Int) ≤ p → Ev (fun k => spec_l1Primes.l0 k n acc p) (pfl f n acc p) := by
  intro f
  have last : ∀ (n : Int) (acc : List Int) (p : Int), 1 ≤ n → n ≤ 1000000 → 2 ≤ p → p ≤ 1000002 → n < p * p → (acc.length : Int) ≤ p → Ev (fun k => spec_l1Primes.l0 k n acc p) (if n > 1 then acc ++ [n] else acc) := by
    intro n acc p hn hn' hp hp' hlt hl
    have hb := mul_bd (show 0 ≤ p by omega) hp' (show 0 ≤ p by omega) hp'
    refine Ev.step (f := fun _ => some (if n > 1 then acc ++ [n] else acc)) (fun k => ?_) (Ev.now _)
    rw [spec_l1Primes.l0, w64 (by omega) (by omega), if_neg (by omega)]
    by_cases h1 : n > 1
    · rw [if_pos h1, if_pos h1, if_pos (by omega)]
    · rw [if_neg h1, if_neg h1]
  induction f with
  | zero =>
    intro n acc p hn hn' hp hp' hf hl
    rw [pfl]
    exact last n acc p hn hn' hp hp' (sq_gt hp (by omega)) hl
  | succ f ih =>
    intro n acc p hn hn' hp hp' hf hl
    have hb := mul_bd (show 0 ≤ p by omega) hp' (show 0 ≤ p by omega) hp'
    rw [pfl]
    by_cases hle : p * p ≤ n
    · rw [if_pos hle]
      have hpn : p ≤ n := by have := sq_gt hp (Int.le_refl p); omega
      by_cases hm : n % p = 0
      · rw [if_pos hm]
        have hu := un_pos hp hn
        refine Ev.step (f := fun k => spec_l1Primes.j1 k n (acc ++ [p]) p) (fun k => ?_) (Ev.step (f := fun k => spec_l1Primes.l1 k n (acc ++ [p]) p) (fun k => by rw [spec_l1Primes.j1]) <| spec_l1Primes_l1 hp hp' (acc ++ [p]) n.natAbs n (by omega) (Nat.le_refl _) (by omega) (ih (un n p) (acc ++ [p]) (p + 1) hu.1 (by omega) (by omega) (by omega) (by omega) (by simp; omega)))
        rw [spec_l1Primes.l0, w64 (x := p * p) (by omega) (by omega), if_pos hle, if_neg (by omega), if_pos (tm_zero.2 hm), if_pos (by omega)]
      · rw [if_neg hm]
        refine Ev.step (f := fun k => spec_l1Primes.j1 k n acc p) (fun k => ?_) (Ev.step (f := fun k => spec_l1Primes.l1 k n acc p) (fun k => by rw [spec_l1Primes.j1]) <| Ev.step (fun k => ?_) (ih n acc (p + 1) hn hn' (by omega) (by omega) (by omega) (by omega)))
        · rw [spec_l1Primes.l0, w64 (x := p * p) (by omega) (by omega), if_pos hle, if_neg (by omega), if_neg (fun e => hm (tm_zero.1 e))]
        · rw [spec_l1Primes.l1, if_neg (by omega), if_neg (fun e => hm (tm_zero.1 e)), w64 (x := p + 1) (by omega) (by omega)]
    · rw [if_neg hle]
      exact last n acc p hn hn' hp hp' (by omega) hl
theorem spec_l1Primes_ev {n : Int} (hn : n ≠ 0) (hb : n.natAbs ≤ 1000000) : Ev (fun k => spec_l1Primes.f k n) (primesL n) := by
  unfold spec_l1Primes.f
  simp only [spec_l1Size_eq (n := n) (by omega) (by omega), Option.bind_some]
  exact spec_l1Primes_l0 n.natAbs n.natAbs [] 2 (by omega) (by omega) (by omega) (by omega) (by omega) (by simp)
theorem rd_here (p : List Int) (a : Int) (l : List Int) : rd (p ++ a :: l) (p.length : Int) = a := by
  unfold rd
  rw [Int.toNat_natCast, List.getD_eq_getElem?_getD, List.getElem?_append_right (Nat.le_refl _)]
  simp
theorem slices_Index_l0 {L : List Int} {x : Int} (hL : L.length ≤ 1000000) : ∀ (l pre : List Int), pre ++ l = L → ∃ r, Ev (fun k => slices_Index_int_int.l0 k L x (L.length : Int) pre.length) r ∧ (r ≥ 0 ↔ x ∈ l) := by
  intro l
  induction l with
  | nil =>
    intro pre e
    have hl : L.length = pre.length := by rw [← e]; simp
    refine ⟨-1, Ev.step (f := fun _ => some (-1)) (fun k => by rw [slices_Index_int_int.l0, if_neg (by omega)]) (Ev.now _), ?_⟩
    simp
  | cons a l ih =>
    intro pre e
    have hl : L.length = pre.length + (l.length + 1) := by rw [← e]; simp
    have hrd : rd L (pre.length : Int) = a := by rw [← e]; exact rd_here ..
    by_cases h : x = a
    · refine ⟨pre.length, Ev.step (f := fun _ => some (pre.length : Int)) (fun k => by rw [slices_Index_int_int.l0, if_pos (by omega), if_pos (by omega), if_pos (by omega), hrd, if_pos h]) (Ev.now _), ?_⟩
      constructor
      · intro _; rw [h]; simp
      · intro _; omega
    · obtain ⟨r, hr, hiff⟩ := ih (pre ++ [a]) (by rw [← e]; simp)
      rw [List.length_append] at hr
      refine ⟨r, Ev.step (fun k => ?_) hr, ?_⟩
      · rw [slices_Index_int_int.l0, if_pos (by omega), if_pos (by omega), if_pos (by omega), hrd, if_neg h, w64 (x := (pre.length : Int) + 1) (by omega) (by omega)]
        rfl
      · rw [hiff, List.mem_cons]
        constructor
        · exact Or.inr
        · rintro (h' | h')
          · exact absurd h' h
          · exact h'
theorem slices_Contains_ev {L : List Int} {x : Int} (hL : L.length ≤ 1000000) : Ev (fun k => slices_Contains_int_int.f k L x) (decide (x ∈ L)) := by
  obtain ⟨r, hr, hiff⟩ := slices_Index_l0 (x := x) hL L [] rfl
  unfold slices_Contains_int_int.f slices_Index_int_int.f
  refine Ev.bind hr ?_
  have : decide (r ≥ 0) = decide (x ∈ L) := by rw [decide_eq_decide]; exact hiff
  rw [this]; exact Ev.now _
theorem cmp_Less_eq (a b : Int) : cmp_Less_int.f a b = some (decide (a < b)) := by
  unfold cmp_Less_int.f cmp_isNaN_int.f
  rw [bne_self_eq_false]
  simp only [Option.bind_some, Bool.false_eq_true, if_false]
/-- A list that ascends stays as it is. -/
theorem insertionSort_ev {L : List Int} (hs : L.Pairwise (· < ·)) (hL : L.length ≤ 1000000) : Ev (fun k => slices_insertionSortOrdered_int.f k L 0 (L.length : Int)) L := by
  have key : ∀ (d : Nat) (i : Nat), 1 ≤ i → (i + d = L.length ∨ (d = 0 ∧ L.length ≤ i)) → Ev (fun k => slices_insertionSortOrdered_int.l0 k L 0 (L.length : Int) i) L := by
    intro d
    induction d with
    | zero =>
      intro i h1 h
      refine Ev.step (f := fun _ => some L) (fun k => by rw [slices_insertionSortOrdered_int.l0, if_neg (by omega)]) (Ev.now _)
    | succ d ih =>
      intro i h1 h
      have hlt : i < L.length := by omega
      have hstep := sorted_step hs h1 hlt
      have hih := ih (i + 1) (by omega) (by omega)
      refine Ev.step (f := fun k => slices_insertionSortOrdered_int.l1 k L 0 (L.length : Int) i i) (fun k => by rw [slices_insertionSortOrdered_int.l0, if_pos (by omega)]) (Ev.step (fun k => ?_) hih)
      have e1 : rd L (i : Int) = L.getD i 0 := by unfold rd; rw [Int.toNat_natCast]
      have e2 : rd L ((i : Int) - 1) = L.getD (i - 1) 0 := by unfold rd; rw [show ((i : Int) - 1).toNat = i - 1 by omega]
      rw [slices_insertionSortOrdered_int.l1, if_pos (by omega), if_pos (by omega), if_pos (by omega), w64 (x := (i : Int) - 1) (by omega) (by omega), if_pos (by omega), if_pos (by omega), cmp_Less_eq, e1, e2]
      simp only [Option.bind_some]
      rw [decide_eq_false (by omega), if_neg (by simp), w64 (x := (i : Int) + 1) (by omega) (by omega)]
      rfl
  unfold slices_insertionSortOrdered_int.f
  rw [w64 (x := (0 : Int) + 1) (by omega) (by omega)]
  by_cases h : 1 ≤ L.length
  · exact key (L.length - 1) 1 (by omega) (by omega)
  · exact key 0 1 (by omega) (by omega)
theorem bits_Len_ev {n : Int} (h0 : 0 ≤ n) (h : n < 256) : ∃ r, Ev (fun k => bits_Len.f k n) r := by
  unfold bits_Len.f bits_Len64.f
  simp only [if_neg (show ¬ n ≥ 4294967296 by omega)]
  refine ⟨_, Ev.bind (Ev.step (fun k => by rw [bits_Len64.j0, if_neg (by omega), if_neg (by omega), if_pos (by omega), if_pos (by omega)]) (Ev.now _)) (Ev.now _)⟩
theorem slices_Sort_ev {L : List Int} (hs : L.Pairwise (· < ·)) (hL : L.length ≤ 12) : Ev (fun k => slices_Sort_int_int.f k L) L := by
  have hw : IntKind.u64.wrap (L.length : Int) = (L.length : Int) := by
    rw [IntKind.wrap_u64]; omega
  obtain ⟨r, hr⟩ := bits_Len_ev (n := (L.length : Int)) (by omega) (by omega)
  have hp : Ev (fun k => slices_pdqsortOrdered_int.f k L 0 (L.length : Int) r) L := by
    refine Ev.step (f := fun k => slices_pdqsortOrdered_int.l0 k L 0 (L.length : Int) r true) (fun k => by rw [slices_pdqsortOrdered_int.f]) (Ev.step (f := fun k => (slices_insertionSortOrdered_int.f k L 0 (L.length : Int)).bind fun t => some t) (fun k => ?_) (Ev.bind (insertionSort_ev hs (by omega)) (Ev.now _)))
    rw [slices_pdqsortOrdered_int.l0, w64 (x := (L.length : Int) - 0) (by omega) (by omega), if_pos (by omega)]
  unfold slices_Sort_int_int.f
  rw [hw]
  exact Ev.bind hr (Ev.bind hp (Ev.now _))
theorem impl_placesOf_l1 {n : Int} (hn : n ≠ 0) (hb : n.natAbs ≤ 5000) {r : List Int} (h : Ev (fun k => impl_placesOf.l0 k (placesN n) [n] 1 1) r) : ∀ (l pre : List Int), pre ++ l = primesL n → Ev (fun k => impl_placesOf.l1 k (0 :: 2 :: oddL pre) [n] 1 0 (primesL n) ((primesL n).length : Int) pre.length) r := by
  have hlen := primesL_length hn
  intro l
  induction l with
  | nil =>
    intro pre e
    have hl : (primesL n).length = pre.length := by rw [← e]; simp
    have hpre : pre = primesL n := by rw [← e]; simp
    refine Ev.step (fun k => ?_) h
    rw [impl_placesOf.l1, if_neg (by omega), w64 (x := (0 : Int) + 1) (by omega) (by omega), hpre]
    rfl
  | cons p l ih =>
    intro pre e
    have hl : (primesL n).length = pre.length + (l.length + 1) := by rw [← e]; simp
    have hrd : rd (primesL n) (pre.length : Int) = p := by rw [← e]; exact rd_here ..
    have hmem : p ∈ primesL n := by rw [← e]; simp
    have hp2 := ((mem_primesL hn).1 hmem).1.1
    have hs := primesL_sorted hn
    rw [← e, List.pairwise_append] at hs
    have hodd : (oddL pre).length ≤ pre.length := by unfold oddL; exact List.length_filter_le ..
    have hih := ih (pre ++ [p]) (by rw [← e]; simp)
    rw [List.length_append, oddL_app, oddL_one] at hih
    refine Ev.step (fun k => by rw [impl_placesOf.l1, if_pos (by omega), if_pos (by omega), if_pos (by omega), hrd, w64 (x := (pre.length : Int) + 1) (by omega) (by omega)]) ?_
    refine Ev.bind (slices_Contains_ev (by simp only [List.length_cons]; omega)) ?_
    by_cases h2 : p > 2
    · have hno : ¬ p ∈ 0 :: 2 :: oddL pre := by
        rw [List.mem_cons, List.mem_cons, mem_oddL]
        rintro (h | h | h)
        · omega
        · omega
        · have := hs.2.2 p h.1 p (by simp); omega
      rw [decide_eq_false hno]
      simp only [Bool.false_eq_true, if_false, if_pos (show (0 :: 2 :: oddL pre).length < 17592186044416 by simp only [List.length_cons]; omega)]
      rw [if_pos h2] at hih
      exact hih
    · have hyes : p ∈ 0 :: 2 :: oddL pre := by
        have : p = 2 := by omega
        rw [this]; simp
      rw [decide_eq_true hyes]
      simp only [if_true]
      rw [if_neg h2, List.append_nil] at hih
      exact hih
theorem impl_placesOf_ev {n : Int} (hn : n ≠ 0) (hb : n.natAbs ≤ 5000) : Ev (fun k => impl_placesOf.f k [n]) (placesN n) := by
  have hlen := placesN_len hn hb
  have hend : Ev (fun k => impl_placesOf.l0 k (placesN n) [n] 1 1) (placesN n) := by
    refine Ev.step (fun k => by rw [impl_placesOf.l0, if_neg (by omega)]) ?_
    exact Ev.bind (slices_Sort_ev (placesN_sorted hn) (by omega)) (Ev.now _)
  unfold impl_placesOf.f
  refine Ev.step (f := fun k => (impl_primesOf.f k n).bind fun t => impl_placesOf.l1 k [0, 2] [n] 1 0 t (t.length : Int) 0) (fun k => ?_) (Ev.bind (impl_primesOf_ev hn (by omega)) (impl_placesOf_l1 hn hb hend (primesL n) [] rfl))
  rw [impl_placesOf.l0]
  rfl
theorem impl_LocalPlaces_l0 {n : Int} (hn : n ≠ 0) (hb : n.natAbs ≤ 5000) : ∀ (l pre : List Int), pre ++ l = placesN n → Ev (fun k => impl_LocalPlaces.l0 k n (pre.filter fun p => !lsq n p) (placesN n) ((placesN n).length : Int) pre.length) (lplaces n) := by
  have hlen := placesN_len hn hb
  intro l
  induction l with
  | nil =>
    intro pre e
    have hl : (placesN n).length = pre.length := by rw [← e]; simp
    have hpre : pre = placesN n := by rw [← e]; simp
    refine Ev.step (f := fun _ => some (lplaces n)) (fun k => ?_) (Ev.now _)
    rw [impl_LocalPlaces.l0, if_neg (by omega), hpre]; rfl
  | cons p l ih =>
    intro pre e
    have hl : (placesN n).length = pre.length + (l.length + 1) := by rw [← e]; simp
    have hrd : rd (placesN n) (pre.length : Int) = p := by rw [← e]; exact rd_here ..
    have hmem : p ∈ placesN n := by rw [← e]; simp
    have hpl := placesN_pl hn hb hmem
    have hfl : (pre.filter fun p => !lsq n p).length ≤ pre.length := List.length_filter_le ..
    have hih := ih (pre ++ [p]) (by rw [← e]; simp)
    rw [List.length_append, List.filter_append] at hih
    refine Ev.step (fun k => by rw [impl_LocalPlaces.l0, if_pos (by omega), if_pos (by omega), if_pos (by omega), hrd, w64 (x := (pre.length : Int) + 1) (by omega) (by omega)]) ?_
    refine Ev.bind (impl_localSquare_ev hpl.1 hpl.2 hn (by omega)) ?_
    by_cases h : lsq n p = true
    · simp only [if_pos h]
      rw [List.filter_cons_of_neg (by simp [h]), List.filter_nil, List.append_nil] at hih
      exact hih
    · simp only [if_neg h, if_pos (show (pre.filter fun p => !lsq n p).length < 17592186044416 by omega)]
      rw [List.filter_cons_of_pos (by simp [h]), List.filter_nil] at hih
      exact hih
theorem impl_LocalPlaces_ev (n : Int) : Ev (fun k => impl_LocalPlaces.f k n) (lplacesOf n) := by
  unfold impl_LocalPlaces.f lplacesOf
  simp only [impl_isNumber_eq, Option.bind_some]
  have no : Ev (fun k => impl_LocalPlaces.j0 k n true) [] :=
    Ev.step (f := fun _ => some []) (fun k => by rw [impl_LocalPlaces.j0, if_pos rfl]) (Ev.now _)
  by_cases h0 : n = 0
  · simp only [if_pos h0]; rw [if_neg (fun g => g.1 h0)]; exact no
  · simp only [if_neg h0]
    by_cases hb : numB n = true
    · have hn := numB_true.1 hb
      rw [if_pos ⟨h0, hb⟩, hb]
      refine Ev.step (fun k => by rw [impl_LocalPlaces.j0, if_neg (by simp)]) ?_
      exact Ev.bind (impl_placesOf_ev h0 (by omega)) (impl_LocalPlaces_l0 h0 (by omega) (placesN n) [] rfl)
    · rw [if_neg (fun g => hb g.2)]
      rw [Bool.not_eq_true] at hb
      rw [hb]; exact no
theorem rd_there (p : List Int) (a : Int) (l : List Int) : rd (p ++ a :: l) (p.length : Int) = a := by
  unfold rd
  rw [Int.toNat_natCast, List.getD_eq_getElem?_getD, List.getElem?_append_right (Nat.le_refl _)]
  simp
theorem spec_l2Places_l0 {n : Int} (hn : n ≠ 0) (hb : n.natAbs ≤ 5000) : ∀ (l pre : List Int), pre ++ l = primesL n → Ev (fun k => spec_l2Places.l0 k (0 :: 2 :: oddL pre) (primesL n) pre.length) (placesN n) := by
  have hlen := primesL_length hn
  intro l
  induction l with
  | nil =>
    intro pre e
    have hl : (primesL n).length = pre.length := by rw [← e]; simp
    have hpre : pre = primesL n := by rw [← e]; simp
    refine Ev.step (f := fun _ => some (placesN n)) (fun k => ?_) (Ev.now _)
    rw [spec_l2Places.l0, if_neg (by omega), hpre]; rfl
  | cons p l ih =>
    intro pre e
    have hl : (primesL n).length = pre.length + (l.length + 1) := by rw [← e]; simp
    have hrd : rd (primesL n) (pre.length : Int) = p := by rw [← e]; exact rd_there ..
    have hodd : (oddL pre).length ≤ pre.length := by unfold oddL; exact List.length_filter_le ..
    have hih := ih (pre ++ [p]) (by rw [← e]; simp)
    rw [List.length_append, oddL_app, oddL_one] at hih
    by_cases h2 : p > 2
    · rw [if_pos h2] at hih
      refine Ev.step (fun k => ?_) hih
      rw [spec_l2Places.l0, if_pos (by omega), if_pos (by omega), hrd, if_pos h2, if_pos (by simp only [List.length_cons]; omega), w64 (x := (pre.length : Int) + 1) (by omega) (by omega)]
      rfl
    · rw [if_neg h2, List.append_nil] at hih
      refine Ev.step (fun k => ?_) hih
      rw [spec_l2Places.l0, if_pos (by omega), if_pos (by omega), hrd, if_neg h2, w64 (x := (pre.length : Int) + 1) (by omega) (by omega)]
      rfl
theorem spec_l2Places_ev {n : Int} (hn : n ≠ 0) (hb : n.natAbs ≤ 5000) : Ev (fun k => spec_l2Places.f k n) (placesN n) := by
  unfold spec_l2Places.f
  exact Ev.bind (spec_l1Primes_ev hn (by omega)) (spec_l2Places_l0 hn hb (primesL n) [] rfl)
theorem spec_LocalPlaces_l0 {n : Int} (hn : n ≠ 0) (hb : n.natAbs ≤ 5000) : ∀ (l pre : List Int), pre ++ l = placesN n → Ev (fun k => spec_LocalPlaces.l0 k n (pre.filter fun p => !lsq n p) (placesN n) pre.length) (lplaces n) := by
  have hlen := placesN_len hn hb
  intro l
  induction l with
  | nil =>
    intro pre e
    have hl : (placesN n).length = pre.length := by rw [← e]; simp
    have hpre : pre = placesN n := by rw [← e]; simp
    refine Ev.step (f := fun _ => some (lplaces n)) (fun k => ?_) (Ev.now _)
    rw [spec_LocalPlaces.l0, if_neg (by omega), hpre]; rfl
  | cons p l ih =>
    intro pre e
    have hl : (placesN n).length = pre.length + (l.length + 1) := by rw [← e]; simp
    have hrd : rd (placesN n) (pre.length : Int) = p := by rw [← e]; exact rd_there ..
    have hmem : p ∈ placesN n := by rw [← e]; simp
    have hpl := placesN_pl hn hb hmem
    have hfl : (pre.filter fun p => !lsq n p).length ≤ pre.length := List.length_filter_le ..
    have hih := ih (pre ++ [p]) (by rw [← e]; simp)
    rw [List.length_append, List.filter_append] at hih
    refine Ev.step (fun k => by rw [spec_LocalPlaces.l0, if_pos (by omega), if_pos (by omega), hrd, w64 (x := (pre.length : Int) + 1) (by omega) (by omega)]) ?_
    refine Ev.bind (spec_l2Square_ev hpl.1 hpl.2 hn (by omega)) ?_
    by_cases h : lsq n p = true
    · simp only [if_pos h]
      rw [List.filter_cons_of_neg (by simp [h]), List.filter_nil, List.append_nil] at hih
      exact hih
    · simp only [if_neg h, if_pos (show (pre.filter fun p => !lsq n p).length < 17592186044416 by omega)]
      rw [List.filter_cons_of_pos (by simp [h]), List.filter_nil] at hih
      exact hih
theorem spec_LocalPlaces_ev (n : Int) : Ev (fun k => spec_LocalPlaces.f k n) (lplacesOf n) := by
  unfold spec_LocalPlaces.f lplacesOf
  simp only [spec_l1Number_eq, Option.bind_some]
  have no : Ev (fun k => spec_LocalPlaces.j0 k n [] true) [] :=
    Ev.step (f := fun _ => some []) (fun k => by rw [spec_LocalPlaces.j0, if_pos rfl]) (Ev.now _)
  by_cases hb : numB n = true
  · simp only [if_pos hb]
    by_cases h0 : n = 0
    · rw [if_neg (fun g => g.1 h0), show (n == 0) = true by rw [beq_iff_eq]; exact h0]; exact no
    · have hn := numB_true.1 hb
      rw [if_pos ⟨h0, hb⟩, show (n == 0) = false by rw [beq_eq_false_iff_ne]; exact h0]
      refine Ev.step (fun k => by rw [spec_LocalPlaces.j0, if_neg (by simp)]) ?_
      exact Ev.bind (spec_l2Places_ev h0 (by omega)) (spec_LocalPlaces_l0 h0 (by omega) (placesN n) [] rfl)
  · simp only [if_neg hb]; rw [if_neg (fun g => hb g.2)]; exact no
theorem FnExactLocalPlaces : laws_FnExactLocalPlaces.Pure := by
  intro n _
  refine Ev.rounds ?_
  unfold laws_FnExactLocalPlaces.f
  have hl := lplacesOf_len n
  refine Ev.bind (spec_LocalPlaces_ev n) (Ev.bind (impl_LocalPlaces_ev n) (Ev.bind (laws_eqIntS_ev (by omega)) ?_))
  simp only [decide_true, if_true]
  refine Ev.bind (laws_markIntS_ev (by omega)) (Ev.bind (laws_heldIntS_ev (by omega)) ?_)
  simp only [if_neg (show ¬ (1 + ((lplacesOf n).length : Int) < 0) by omega), if_true]
  refine Ev.bind (impl_LocalPlaces_ev n) (Ev.bind (laws_eqIntS_ev (by omega)) ?_)
  simp only [decide_true, if_true]
  refine Ev.bind (laws_heldIntS_ev (by omega)) ?_
  simp only [if_neg (show ¬ (1 + ((lplacesOf n).length : Int) < 0) by omega), if_true]
  exact Ev.now _

end Go.Proofs.Ytclembpedndihaa.Pure
