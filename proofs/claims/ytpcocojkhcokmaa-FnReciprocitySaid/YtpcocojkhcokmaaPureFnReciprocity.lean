/- At every draw the program's JacobiOf is the reference's; it is 0 exactly if there is a divisor in common, and two odd numbers above 0 know of each other.
No condition beyond the given statement. The printed functions are tied to plain arithmetic one by one; the law follows at the end. -/
import Derived.Test.YtpcocojkhcokmaaWSized
import Derived.Test.YtpcocojkhcokmaaPFnReciprocityx4
import Derived.Test.YtpcocojkhcokmaaM10
set_option linter.unusedVariables false
set_option linter.unusedSimpArgs false
namespace Go.Proofs.Ytpcocojkhcokmaa
open Go.ChangeShapes Go.WideShapes
/-- The words' lemma on the length of a slice, under the name by which the row of this law calls it. -/
theorem PrintWords.sized_ints {H : Type} {enc : TypeId × Value → H} {P : Program} {W : World} {base : Nat} {spare : Nat → Bool} {held : Bool} {t e : TypeId} {k : IntKind} {a : Option Addr} {len cap : Nat} {d : DataW H} {ps : List MemPlace} {ts : List TypeId} {ds : List (DataW H)} {j : Nat}
    (hsz : (DataW.weightsEach P ts ds).all (· ≤ reachBytes) = true) (ht : ts[j]? = some t) (hd : ds[j]? = some d) (hu : P.underlying t = some (.slice e)) (he : P.underlying e = some (.int k)) (hc : P.cellsOf e = 1) {B : Nat} (hB : P.bytesOf e = B)
    (h : DataW.Trod enc P W base spare held t (.slice a len cap) d ps) : len * B ≤ 140737488351232 :=
  Go.Proofs.YtpcocojkhcokmaaW.PrintWords.sized_ints hsz ht hd hu he hc hB h
end Go.Proofs.Ytpcocojkhcokmaa
namespace Go.Proofs.Ytpcocojkhcokmaa.Pure
open Go.RowKit Go.Proofs.Ytpcocojkhcokmaa.PFnReciprocity Go.Proofs.YtpcocojkhcokmaaW.PrintWords Go.Proofs.YtpcocojkhcokmaaW.PrintLast Go.Proofs.YtpcocojkhcokmaaW.PrintMore Go.Proofs.LG

theorem spec_l6In_eq (a b c : Int) : spec_l6In.f a b c = some (decide (b ≤ a ∧ a ≤ c)) := by
  unfold spec_l6In.f
  by_cases h : a ≥ b
  · rw [if_pos h]; congr 1; rw [decide_eq_decide]; omega
  · rw [if_neg h]; congr 1; symm; rw [decide_eq_false_iff_not]; omega
theorem spec_l1Number_eq (a : Int) : spec_l1Number.f a = some (numB a) := by
  unfold spec_l1Number.f; rw [spec_l6In_eq]; rfl
theorem impl_isNumber_eq (a : Int) : impl_isNumber.f a = some (numB a) := by
  unfold impl_isNumber.f numB
  by_cases h : a ≥ -5000
  · rw [if_pos h]; congr 1; rw [decide_eq_decide]; omega
  · rw [if_neg h]; congr 1; symm; rw [decide_eq_false_iff_not]; omega
theorem spec_l1Mod_eq {n m : Int} (h0 : 0 < m) (h1 : m ≤ 1000000000) : spec_l1Mod.f n m = some (n % m) := by
  unfold spec_l1Mod.f; rw [if_neg (by omega), rest_form h0 h1]
theorem impl_rest_eq {n m : Int} (h0 : 0 < m) (h1 : m ≤ 1000000000) : impl_rest.f n m = some (n % m) := by
  unfold impl_rest.f; rw [if_neg (by omega), rest_form h0 h1]
theorem spec_l1Valuation_l0 {p : Int} (hp : 2 ≤ p) (hp' : p ≤ 1000000000000000) : ∀ (f : Nat) (n : Int), n ≠ 0 → n.natAbs ≤ f → n.natAbs ≤ 1000000000000000 → ∀ c : Int, 0 ≤ c → c + f ≤ 2000000000000000 → Ev (fun k => spec_l1Valuation.l0 k n p c) (c + (spl f n p).1, (spl f n p).2) := by
  intro f
  induction f with
  | zero => intro n hn hf; omega
  | succ f ih =>
    intro n hn hf hb c hc hcf
    rw [spl]
    by_cases h : n % p = 0
    · obtain ⟨h1, h2, h3⟩ := div_smaller hp hn h
      rw [if_pos h]
      have := ih (n / p) h1 (by omega) (by omega) (c + 1) (by omega) (by omega)
      have e : c + (((spl f (n / p) p).1 + 1 : Nat) : Int) = c + 1 + ((spl f (n / p) p).1 : Int) := by omega
      show Ev (fun k => spec_l1Valuation.l0 k n p c) (c + (((spl f (n / p) p).1 + 1 : Nat) : Int), (spl f (n / p) p).2)
      rw [e]
      refine Ev.step (fun k => ?_) this
      rw [spec_l1Valuation.l0, if_neg (by omega), if_pos (tm_zero.2 h), td_dvd h, w64 (by omega) (by omega), w64 (by omega) (by omega)]
    · rw [if_neg h]
      refine Ev.step (f := fun _ => some (c, n)) (fun k => ?_) ?_
      · rw [spec_l1Valuation.l0, if_neg (by omega), if_neg (fun e => h (tm_zero.1 e))]
      · have e : c + ((0 : Nat) : Int) = c := by omega
        show Ev _ (c + ((0 : Nat) : Int), n)
        rw [e]; exact Ev.now _
theorem spec_l1Valuation_ev {n p : Int} (hp : 2 ≤ p) (hp' : p ≤ 1000000000000000) (hn : n ≠ 0) (hb : n.natAbs ≤ 1000000000000000) : Ev (fun k => spec_l1Valuation.f k n p) ((vl n p : Int), un n p) := by
  have := spec_l1Valuation_l0 hp hp' n.natAbs n hn (Nat.le_refl _) hb 0 (by omega) (by omega)
  rw [Int.zero_add] at this
  exact this
theorem impl_split_l0 {p : Int} (hp : 2 ≤ p) (hp' : p ≤ 1000000000000000) : ∀ (f : Nat) (n : Int), n ≠ 0 → n.natAbs ≤ f → n.natAbs ≤ 1000000000000000 → ∀ c : Int, 0 ≤ c → c + f ≤ 2000000000000000 → Ev (fun k => impl_split.l0 k n p c) (c + (spl f n p).1, (spl f n p).2) := by
  intro f
  induction f with
  | zero => intro n hn hf; omega
  | succ f ih =>
    intro n hn hf hb c hc hcf
    rw [spl]
    by_cases h : n % p = 0
    · obtain ⟨h1, h2, h3⟩ := div_smaller hp hn h
      rw [if_pos h]
      have := ih (n / p) h1 (by omega) (by omega) (c + 1) (by omega) (by omega)
      have e : c + (((spl f (n / p) p).1 + 1 : Nat) : Int) = c + 1 + ((spl f (n / p) p).1 : Int) := by omega
      show Ev (fun k => impl_split.l0 k n p c) (c + (((spl f (n / p) p).1 + 1 : Nat) : Int), (spl f (n / p) p).2)
      rw [e]
      refine Ev.step (fun k => ?_) this
      rw [impl_split.l0, if_neg (by omega), if_pos (tm_zero.2 h), td_dvd h, w64 (by omega) (by omega), w64 (by omega) (by omega)]
    · rw [if_neg h]
      refine Ev.step (f := fun _ => some (c, n)) (fun k => ?_) ?_
      · rw [impl_split.l0, if_neg (by omega), if_neg (fun e => h (tm_zero.1 e))]
      · have e : c + ((0 : Nat) : Int) = c := by omega
        show Ev _ (c + ((0 : Nat) : Int), n)
        rw [e]; exact Ev.now _
theorem impl_split_ev {n p : Int} (hp : 2 ≤ p) (hp' : p ≤ 1000000000000000) (hn : n ≠ 0) (hb : n.natAbs ≤ 1000000000000000) : Ev (fun k => impl_split.f k n p) ((vl n p : Int), un n p) := by
  have := impl_split_l0 hp hp' n.natAbs n hn (Nat.le_refl _) hb 0 (by omega) (by omega)
  rw [Int.zero_add] at this
  exact this
theorem spec_l1Power_l0 {m : Int} (hm : 1 ≤ m) (hm' : m ≤ 5000) : ∀ (f : Nat) (b e o : Int), 0 ≤ e → e ≤ f → e ≤ 1000000000 → 0 ≤ b → b < m → 0 ≤ o → o < m → Ev (fun k => spec_l1Power.l0 k b e m o) (o * b ^ e.toNat % m) := by
  intro f
  induction f with
  | zero =>
    intro b e o he hf hE hb hb' ho ho'
    have : e = 0 := by omega
    subst this
    have e1 : o * b ^ (0 : Int).toNat % m = o := by
      show o * b ^ 0 % m = o
      rw [Int.pow_zero, Int.mul_one, Int.emod_eq_of_lt ho ho']
    rw [e1]
    refine Ev.step (f := fun _ => some o) (fun k => ?_) (Ev.now _)
    rw [spec_l1Power.l0, if_neg (by omega)]
  | succ f ih =>
    intro b e o he hf hE hb hb' ho ho'
    by_cases h0 : e = 0
    · subst h0
      have e1 : o * b ^ (0 : Int).toNat % m = o := by
        show o * b ^ 0 % m = o
        rw [Int.pow_zero, Int.mul_one, Int.emod_eq_of_lt ho ho']
      rw [e1]
      refine Ev.step (f := fun _ => some o) (fun k => ?_) (Ev.now _)
      rw [spec_l1Power.l0, if_neg (by omega)]
    · have bb := mul_bd hb (show b ≤ 5000 by omega) hb (show b ≤ 5000 by omega)
      have ob := mul_bd ho (show o ≤ 5000 by omega) hb (show b ≤ 5000 by omega)
      have r1 := emod_bd (b * b) (show 0 < m by omega)
      have r2 := emod_bd (o * b) (show 0 < m by omega)
      have hd : Int.tdiv e 2 = e / 2 := Int.tdiv_eq_ediv_of_nonneg he
      by_cases h1 : e % 2 = 1
      · have := ih (b * b % m) (e / 2) (o * b % m) (by omega) (by omega) (by omega) r1.1 r1.2 r2.1 r2.2
        have e1 : o * b % m * (b * b % m) ^ (e / 2).toNat % m = o * b ^ e.toNat % m := by
          have ee : e.toNat = 2 * (e / 2).toNat + 1 := by omega
          rw [Int.mul_emod, Int.emod_emod, emod_pow, ← Int.mul_emod, ee, Int.pow_succ, Int.pow_mul, pow_two']
          congr 1; grind
        rw [e1] at this
        refine Ev.step (fun k => ?_) this
        rw [spec_l1Power.l0, if_pos (by omega), tm he, if_pos h1, if_neg (by omega), w64 (x := b * b) (by omega) (by omega), tm bb.1, hd, w64 (x := e / 2) (by omega) (by omega), w64 (x := o * b) (by omega) (by omega), tm ob.1]
      · have := ih (b * b % m) (e / 2) o (by omega) (by omega) (by omega) r1.1 r1.2 ho ho'
        have e1 : o * (b * b % m) ^ (e / 2).toNat % m = o * b ^ e.toNat % m := by
          have ee : e.toNat = 2 * (e / 2).toNat := by omega
          rw [Int.mul_emod, emod_pow, ← Int.mul_emod, ee, Int.pow_mul, pow_two']
        rw [e1] at this
        refine Ev.step (fun k => ?_) this
        rw [spec_l1Power.l0, if_pos (by omega), tm he, if_neg h1, if_neg (by omega), w64 (x := b * b) (by omega) (by omega), tm bb.1, hd, w64 (x := e / 2) (by omega) (by omega)]
theorem spec_l1Power_ev {n e m : Int} (he : 0 ≤ e) (he' : e ≤ 1000000000) (hm : 1 ≤ m) (hm' : m ≤ 5000) : Ev (fun k => spec_l1Power.f k n e m) (n ^ e.toNat % m) := by
  unfold spec_l1Power.f
  simp only [if_neg (show ¬ m = 0 by omega), spec_l1Mod_eq (n := n) (show 0 < m by omega) (by omega), Option.bind_some]
  have r1 := emod_bd n (show 0 < m by omega)
  have r2 := emod_bd 1 (show 0 < m by omega)
  have := spec_l1Power_l0 hm hm' e.toNat (n % m) e (1 % m) he (by omega) he' r1.1 r1.2 r2.1 r2.2
  have e1 : 1 % m * (n % m) ^ e.toNat % m = n ^ e.toNat % m := by
    rw [Int.mul_emod, Int.emod_emod, emod_pow, ← Int.mul_emod, Int.one_mul]
  rw [e1] at this
  exact this
theorem spec_l1Size_eq {n : Int} (h : -1000000000000 ≤ n) (h' : n ≤ 1000000000000) : spec_l1Size.f n = some (n.natAbs : Int) := by
  unfold spec_l1Size.f mx
  rw [w64 (by omega) (by omega)]
  congr 1
  split <;> omega
theorem impl_size_eq {n : Int} (h : -1000000000000 ≤ n) (h' : n ≤ 1000000000000) : impl_size.f n = some (n.natAbs : Int) := by
  unfold impl_size.f mx
  rw [w64 (by omega) (by omega)]
  congr 1
  split <;> omega
theorem impl_gcd_l1 {l : List Int} {L i r : Int} : ∀ (f : Nat) (x y : Int), 0 ≤ x → 0 ≤ y → y < f → Ev (fun k => impl_gcd.l0 k (Int.gcd x y : Int) l L (i + 1)) r → 0 ≤ i → i < 1000000 → Ev (fun k => impl_gcd.l1 k x y l L i) r := by
  intro f
  induction f with
  | zero => intro x y hx hy hf; omega
  | succ f ih =>
    intro x y hx hy hf hr hi hi'
    by_cases h : y = 0
    · subst h
      have e : (Int.gcd x 0 : Int) = x := by rw [Int.gcd_zero]; omega
      rw [e] at hr
      refine Ev.step (fun k => ?_) hr
      rw [impl_gcd.l1, if_pos rfl, w64 (by omega) (by omega)]
    · have r := emod_bd x (show 0 < y by omega)
      rw [gcd_step hx (by omega)] at hr
      refine Ev.step (fun k => ?_) (ih y (x % y) hy r.1 (by omega) hr hi hi')
      rw [impl_gcd.l1, if_neg h, tm hx]
theorem impl_gcd_two {a b : Int} (ha : -5000 ≤ a) (ha' : a ≤ 5000) (hb : -5000 ≤ b) (hb' : b ≤ 5000) : Ev (fun k => impl_gcd.f k [a, b]) (Int.gcd a b : Int) := by
  unfold impl_gcd.f
  refine Ev.step (f := fun k => impl_gcd.l1 k 0 a.natAbs [a, b] 2 0) (fun k => ?_) ?_
  · rw [impl_gcd.l0]
    show (if (0 : Int) < 2 then _ else _) = _
    rw [if_pos (by omega), if_pos (by omega), if_pos (by simp), show rd [a, b] 0 = a from rfl, impl_size_eq (by omega) (by omega), Option.bind_some]
    rfl
  · refine impl_gcd_l1 (a.natAbs + 1) 0 a.natAbs (by omega) (by omega) (by omega) ?_ (by omega) (by omega)
    have e : (Int.gcd 0 (a.natAbs : Int) : Int) = a.natAbs := by rw [Int.zero_gcd]; omega
    rw [e]
    refine Ev.step (f := fun k => impl_gcd.l1 k a.natAbs b.natAbs [a, b] 2 1) (fun k => ?_) ?_
    · rw [impl_gcd.l0, if_pos (by omega), if_pos (by omega), if_pos (by simp), show rd [a, b] (0 + 1) = b from rfl, impl_size_eq (by omega) (by omega), Option.bind_some]
      rfl
    · refine impl_gcd_l1 (b.natAbs + 1) a.natAbs b.natAbs (by omega) (by omega) (by omega) ?_ (by omega) (by omega)
      rw [Int.gcd_natCast_natCast]
      refine Ev.step (f := fun _ => some (Int.gcd a b : Int)) (fun k => ?_) (Ev.now _)
      rw [impl_gcd.l0, if_neg (by omega)]; rfl
theorem impl_GcdOf_ev (a b : Int) : Ev (fun k => impl_GcdOf.f k a b) (gcdOf a b) := by
  unfold impl_GcdOf.f gcdOf
  simp only [impl_isNumber_eq, Option.bind_some]
  by_cases ha : numB a = true
  · simp only [if_pos ha]
    by_cases hb : numB b = true
    · simp only [if_pos hb]; rw [if_pos ⟨ha, hb⟩]
      have ha' := numB_true.1 ha
      have hb' := numB_true.1 hb
      exact Ev.bind (impl_gcd_two ha'.1 ha'.2 hb'.1 hb'.2) (Ev.now _)
    · simp only [if_neg hb]; rw [if_neg (fun h => hb h.2)]; exact Ev.now _
  · simp only [if_neg ha]; rw [if_neg (fun h => ha h.1)]; exact Ev.now _
theorem impl_primesOf_l0 : ∀ (f : Nat) (n : Int) (acc : List Int) (p : Int), 1 ≤ n → n ≤ 1000000 → 2 ≤ p → p ≤ 1000002 → n < f + p → (acc.length : Int) ≤ p → Ev (fun k => impl_primesOf.l0 k n acc p) (pfl f n acc p) := by
  intro f
  have last : ∀ (n : Int) (acc : List Int) (p : Int), 1 ≤ n → n ≤ 1000000 → 2 ≤ p → p ≤ 1000002 → n < p * p → (acc.length : Int) ≤ p → Ev (fun k => impl_primesOf.l0 k n acc p) (if n > 1 then acc ++ [n] else acc) := by
    intro n acc p hn hn' hp hp' hlt hl
    have hb := mul_bd (show 0 ≤ p by omega) hp' (show 0 ≤ p by omega) hp'
    refine Ev.step (f := fun _ => some (if n > 1 then acc ++ [n] else acc)) (fun k => ?_) (Ev.now _)
    rw [impl_primesOf.l0, w64 (by omega) (by omega), if_neg (by omega)]
    by_cases h1 : n > 1
    · rw [if_pos h1, if_pos h1, if_pos (by omega)]
    · rw [if_neg h1, if_neg h1]
  induction f with
  | zero =>
    intro n acc p hn hn' hp hp' hf hl
    rw [pfl]
    exact last n acc p hn hn' hp hp' (sq_gt hp (by omega)) hl
  | succ f ih =>
    intro n acc p hn hn' hp hp' hf hl
    have hb := mul_bd (show 0 ≤ p by omega) hp' (show 0 ≤ p by omega) hp'
    rw [pfl]
    by_cases hle : p * p ≤ n
    · rw [if_pos hle]
      have hpn : p ≤ n := by have := sq_gt hp (Int.le_refl p); omega
      by_cases hm : n % p = 0
      · rw [if_pos hm]
        have hu := un_pos hp hn
        refine Ev.step (f := fun k => (impl_split.f k n p).bind fun bt => impl_primesOf.l0 k bt.2 (acc ++ [p]) (p + 1)) (fun k => ?_) (Ev.bind (impl_split_ev hp (by omega) (by omega) (by omega)) (ih (un n p) (acc ++ [p]) (p + 1) hu.1 (by omega) (by omega) (by omega) (by omega) (by simp; omega)))
        rw [impl_primesOf.l0, w64 (x := p * p) (by omega) (by omega), if_pos hle, if_neg (by omega), if_pos (tm_zero.2 hm), if_pos (by omega), w64 (x := p + 1) (by omega) (by omega)]
      · rw [if_neg hm]
        refine Ev.step (fun k => ?_) (ih n acc (p + 1) hn hn' (by omega) (by omega) (by omega) (by omega))
        rw [impl_primesOf.l0, w64 (x := p * p) (by omega) (by omega), if_pos hle, if_neg (by omega), if_neg (fun e => hm (tm_zero.1 e)), w64 (x := p + 1) (by omega) (by omega)]
    · rw [if_neg hle]
      exact last n acc p hn hn' hp hp' (by omega) hl
theorem impl_primesOf_ev {n : Int} (hn : n ≠ 0) (hb : n.natAbs ≤ 1000000) : Ev (fun k => impl_primesOf.f k n) (primesL n) := by
  unfold impl_primesOf.f
  simp only [impl_size_eq (n := n) (by omega) (by omega), Option.bind_some]
  exact impl_primesOf_l0 n.natAbs n.natAbs [] 2 (by omega) (by omega) (by omega) (by omega) (by omega) (by simp)
theorem impl_residue_l0 {n p : Int} (hp : Pr p) (h2 : p ≠ 2) (hp' : p ≤ 5000) (hn : ¬ p ∣ n) : ∀ (d : Nat) (x : Int), 1 ≤ x → x + d = p / 2 + 1 → (∀ y, 1 ≤ y → y < x → y * y % p ≠ n % p) → Ev (fun k => impl_residue.l0 k p (n % p) x) (leg n p) := by
  have h0 := hp.1
  intro d
  induction d with
  | zero =>
    intro x hx hd h
    have : leg n p = -1 := leg_neg hn (fun hr => by
      obtain ⟨y, h1, h3, h4⟩ := (isRes_half hp h2 hn).1 hr
      exact h y h1 (by omega) h4)
    rw [this]
    refine Ev.step (f := fun _ => some (-1)) (fun k => ?_) (Ev.now _)
    rw [impl_residue.l0, tdiv_half (by omega), w64 (by omega) (by omega), if_neg (by omega)]
  | succ d ih =>
    intro x hx hd h
    have hb := mul_bd (show 0 ≤ x by omega) (show x ≤ 5000 by omega) (show 0 ≤ x by omega) (show x ≤ 5000 by omega)
    by_cases e : x * x % p = n % p
    · have : leg n p = 1 := leg_one hn ((isRes_half hp h2 hn).2 ⟨x, hx, by omega, e⟩)
      rw [this]
      refine Ev.step (f := fun _ => some 1) (fun k => ?_) (Ev.now _)
      rw [impl_residue.l0, tdiv_half (by omega), w64 (x := p / 2) (by omega) (by omega), if_pos (by omega), if_neg (by omega), w64 (by omega) (by omega), tm hb.1, if_pos e]
    · refine Ev.step (fun k => ?_) (ih (x + 1) (by omega) (by omega) fun y h1 h3 => ?_)
      · rw [impl_residue.l0, tdiv_half (by omega), w64 (x := p / 2) (by omega) (by omega), if_pos (by omega), if_neg (by omega), w64 (x := x * x) (by omega) (by omega), tm hb.1, if_neg e, w64 (by omega) (by omega)]
      · by_cases e' : y = x
        · subst e'; exact e
        · exact h y h1 (by omega)
theorem impl_residue_ev {n p : Int} (hp : Pr p) (h2 : p ≠ 2) (hp' : p ≤ 5000) : Ev (fun k => impl_residue.f k n p) (leg n p) := by
  have h0 := hp.1
  unfold impl_residue.f
  simp only [impl_rest_eq (n := n) (show 0 < p by omega) (by omega), Option.bind_some]
  by_cases h : n % p = 0
  · simp only [if_pos h]; rw [leg_zero (Int.dvd_of_emod_eq_zero h)]; exact Ev.now _
  · simp only [if_neg h]
    exact impl_residue_l0 hp h2 hp' (fun hd => h (Int.emod_eq_zero_of_dvd hd)) (p / 2).toNat 1 (by omega) (by omega) (fun y h1 h3 => by omega)
theorem spec_l1Residue_ev {n p : Int} (hp : Pr p) (h2 : p ≠ 2) (hp' : p ≤ 5000) : Ev (fun k => spec_l1Residue.f k n p) (leg n p) := by
  have h0 := hp.1
  obtain ⟨h, hh, h1⟩ := odd_prime hp h2
  unfold spec_l1Residue.f
  have e : Int.tdiv (p - 1) 2 = (h : Int) := by
    rw [tdiv_half (by omega)]; omega
  simp only [w64 (x := p - 1) (by omega) (by omega), e, w64 (x := (h : Int)) (by omega) (by omega)]
  refine Ev.bind (spec_l1Power_ev (n := n) (e := h) (by omega) (by omega) (by omega) hp') ?_
  rw [Int.toNat_natCast]
  have hm : leg n p % p = n ^ h % p := Int.emod_eq_emod_iff_emod_sub_eq_zero.2 (Int.emod_eq_zero_of_dvd (leg_euler hp h hh n))
  rw [← hm]
  rcases leg_cases n p with h | h | h
  · rw [h, Int.zero_emod]; simp only [if_neg (show ¬ (0 : Int) = p - 1 by omega)]; exact Ev.now _
  · rw [h, Int.emod_eq_of_lt (by omega) (by omega)]; simp only [if_neg (show ¬ (1 : Int) = p - 1 by omega)]; exact Ev.now _
  · have e2 : (-1 : Int) % p = p - 1 := by
      rw [← Int.add_emod_right, Int.emod_eq_of_lt (by omega) (by omega)]; omega
    rw [h, e2]; simp only [if_true]; exact Ev.now _
theorem rd_pre (p : List Int) (a : Int) (l : List Int) : rd (p ++ a :: l) (p.length : Int) = a := by
  unfold rd
  rw [Int.toNat_natCast, List.getD_eq_getElem?_getD, List.getElem?_append_right (Nat.le_refl _)]
  simp
theorem set_pre (p : List Int) (a : Int) (l : List Int) (c : Int) : (p ++ a :: l).set ((p.length : Int)).toNat c = p ++ c :: l := by
  rw [Int.toNat_natCast, List.set_append_right _ _ (Nat.le_refl _)]
  simp
theorem spec_l1Primes_l1 {p : Int} (hp : 2 ≤ p) (hp' : p ≤ 1000002) (acc : List Int) {r : List Int} : ∀ (f : Nat) (n : Int), n ≠ 0 → n.natAbs ≤ f → n.natAbs ≤ 1000000 → Ev (fun k => spec_l1Primes.l0 k (spl f n p).2 acc (p + 1)) r → Ev (fun k => spec_l1Primes.l1 k n acc p) r := by
  intro f
  induction f with
  | zero => intro n hn hf; omega
  | succ f ih =>
    intro n hn hf hb hr
    rw [spl] at hr
    by_cases h : n % p = 0
    · obtain ⟨h1, h2, h3⟩ := div_smaller hp hn h
      rw [if_pos h] at hr
      refine Ev.step (fun k => ?_) (ih (n / p) h1 (by omega) (by omega) hr)
      rw [spec_l1Primes.l1, if_neg (by omega), if_pos (tm_zero.2 h), td_dvd h, w64 (by omega) (by omega)]
    · rw [if_neg h] at hr
      refine Ev.step (fun k => ?_) hr
      rw [spec_l1Primes.l1, if_neg (by omega), if_neg (fun e => h (tm_zero.1 e)), w64 (by omega) (by omega)]
theorem spec_l1Primes_l0 : ∀ (f : Nat) (n : Int) (acc : List Int) (p : Int), 1 ≤ n → n ≤ 1000000 → 2 ≤ p → p ≤ 1000002 → n < f + p → (acc.length : Int) ≤ p → Ev (fun k => spec_l1Primes.l0 k n acc p) (pfl f n acc p) := by
  intro f
  have last : ∀ (n : Int) (acc : List Int) (p : Int), 1 ≤ n → n ≤ 1000000 → 2 ≤ p → p ≤ 1000002 → n < p * p → (acc.length : Int) ≤ p → Ev (fun k => spec_l1Primes.l0 k n acc p) (if n > 1 then acc ++ [n] else acc) := by
    intro n acc p hn hn' hp hp' hlt hl
    have hb := mul_bd (show 0 ≤ p by omega) hp' (show 0 ≤ p by omega) hp'
    refine Ev.step (f := fun _ => some (if n > 1 then acc ++ [n] else acc)) (fun k => ?_) (Ev.now _)
    rw [spec_l1Primes.l0, w64 (by omega) (by omega), if_neg (by omega)]
    by_cases h1 : n > 1
    · rw [if_pos h1, if_pos h1, if_pos (by omega)]
    · rw [if_neg h1, if_neg h1]
  induction f with
  | zero =>
    intro n acc p hn hn' hp hp' hf hl
    rw [pfl]
    exact last n acc p hn hn' hp hp' (sq_gt hp (by omega)) hl
  | succ f ih =>
    intro n acc p hn hn' hp hp' hf hl
    have hb := mul_bd (show 0 ≤ p by omega) hp' (show 0 ≤ p by omega) hp'
    rw [pfl]
    by_cases hle : p * p ≤ n
    · rw [if_pos hle]
      have hpn : p ≤ n := by have := sq_gt hp (Int.le_refl p); omega
      by_cases hm : n % p = 0
      · rw [if_pos hm]
        have hu := un_pos hp hn
        refine Ev.step (f := fun k => spec_l1Primes.j1 k n (acc ++ [p]) p) (fun k => ?_) (Ev.step (f := fun k => spec_l1Primes.l1 k n (acc ++ [p]) p) (fun k => by rw [spec_l1Primes.j1]) <| spec_l1Primes_l1 hp hp' (acc ++ [p]) n.natAbs n (by omega) (Nat.le_refl _) (by omega) (ih (un n p) (acc ++ [p]) (p + 1) hu.1 (by omega) (by omega) (by omega) (by omega) (by simp; omega)))
        rw [spec_l1Primes.l0, w64 (x := p * p) (by omega) (by omega), if_pos hle, if_neg (by omega), if_pos (tm_zero.2 hm), if_pos (by omega)]
      · rw [if_neg hm]
        refine Ev.step (f := fun k => spec_l1Primes.j1 k n acc p) (fun k => ?_) (Ev.step (f := fun k => spec_l1Primes.l1 k n acc p) (fun k => by rw [spec_l1Primes.j1]) <| Ev.step (fun k => ?_) (ih n acc (p + 1) hn hn' (by omega) (by omega) (by omega) (by omega)))
        · rw [spec_l1Primes.l0, w64 (x := p * p) (by omega) (by omega), if_pos hle, if_neg (by omega), if_neg (fun e => hm (tm_zero.1 e))]
        · rw [spec_l1Primes.l1, if_neg (by omega), if_neg (fun e => hm (tm_zero.1 e)), w64 (x := p + 1) (by omega) (by omega)]
    · rw [if_neg hle]
      exact last n acc p hn hn' hp hp' (by omega) hl
theorem spec_l1Primes_ev {n : Int} (hn : n ≠ 0) (hb : n.natAbs ≤ 1000000) : Ev (fun k => spec_l1Primes.f k n) (primesL n) := by
  unfold spec_l1Primes.f
  simp only [spec_l1Size_eq (n := n) (by omega) (by omega), Option.bind_some]
  exact spec_l1Primes_l0 n.natAbs n.natAbs [] 2 (by omega) (by omega) (by omega) (by omega) (by omega) (by simp)
theorem spec_l6Open_eq {l : List Int} (h : ∀ x ∈ l, (Lit.int .u8 x).wf = true) : ∃ b, GB b ∧ spec_l6Open.f l = some (b, 0) := by
  unfold spec_l6Open.f
  by_cases h1 : (l.length : Int) > 2000
  · rw [if_pos h1, if_pos (by omega)]
    exact ⟨l.take 2000, ⟨by simp; omega, fun x hx => u8_bd (h x (List.mem_of_mem_take hx))⟩, rfl⟩
  · rw [if_neg h1]
    exact ⟨l, ⟨by omega, fun x hx => u8_bd (h x hx)⟩, rfl⟩
theorem rd_bd {b : List Int} (hb : GB b) (i : Int) : 0 ≤ rd b i ∧ rd b i ≤ 255 := by
  unfold rd
  rw [List.getD_eq_getElem?_getD]
  cases h : b[i.toNat]? with
  | none => simp
  | some x => exact hb.2 x (List.mem_of_getElem? h)
theorem pick_ev {b : List Int} (hb : GB b) {p n : Int} (hp : 0 ≤ p) (hp' : p ≤ 1000) (hn : 1 ≤ n) (hn' : n ≤ 1000) : ∃ v, 0 ≤ v ∧ v < n ∧ Ev (fun k => spec_l6Rd_pick.f k b p n) (v, p + 1) := by
  have hl := hb.1
  have e1 : wrap64 (p + 1) = p + 1 := w64 (by omega) (by omega)
  have e2 : wrap64 (p + 1 - 1) = p := by rw [w64 (by omega) (by omega)]; omega
  unfold spec_l6Rd_pick.f
  simp only [if_neg (show ¬ n < 1 by omega), e1]
  by_cases h0 : b.length = 0
  · refine ⟨0, by omega, by omega, Ev.step (f := fun _ => some (0, p + 1)) (fun k => ?_) (Ev.now _)⟩
    rw [spec_l6Rd_pick.j0, if_pos (by simp [h0])]
  · have hL : ((b.length : Int) == 0) = false := by rw [beq_eq_false_iff_ne]; omega
    rw [hL]
    by_cases h1 : p < (b.length : Int)
    · have hr := rd_bd hb p
      have m := emod_bd (rd b p) (show 0 < n by omega)
      refine ⟨rd b p % n, m.1, m.2, Ev.step (f := fun _ => some (rd b p % n, p + 1)) (fun k => ?_) (Ev.now _)⟩
      rw [spec_l6Rd_pick.j0, if_neg (by simp), e2, if_pos h1, if_pos hp, if_neg (by omega), w64 (x := rd b p) (by omega) (by omega), tm hr.1]
    · have m1 := emod_bd p (show (0 : Int) < b.length by omega)
      have t1 : Int.tmod p (b.length : Int) = p % (b.length : Int) := tm hp
      have e7 : wrap64 (wrap64 (p * 7) + 3) = p * 7 + 3 := by rw [w64 (x := p * 7) (by omega) (by omega), w64 (by omega) (by omega)]
      have t2 : Int.tmod (p * 7 + 3) (b.length : Int) = (p * 7 + 3) % (b.length : Int) := tm (by omega)
      have m2 := emod_bd (p * 7 + 3) (show (0 : Int) < b.length by omega)
      have r1 := rd_bd hb (p % (b.length : Int))
      have r2 := rd_bd hb ((p * 7 + 3) % (b.length : Int))
      have d1 : Int.tdiv p (b.length : Int) = p / (b.length : Int) := Int.tdiv_eq_ediv_of_nonneg hp
      have d2 : 0 ≤ p / (b.length : Int) ∧ p / (b.length : Int) ≤ p := ⟨Int.ediv_nonneg hp (by omega), Int.ediv_le_self _ hp⟩
      have key : ∃ v, 0 ≤ v ∧ v < n ∧ ∀ k, spec_l6Rd_pick.j0 (k + 1) n false b (p + 1) = some (v, p + 1) := by
        generalize hq1 : rd b (p % (b.length : Int)) = q1 at r1
        generalize hq2 : rd b ((p * 7 + 3) % (b.length : Int)) = q2 at r2
        generalize hq3 : p / (b.length : Int) = q3 at d1 d2
        have hx0 : 0 ≤ Go.bits .xor .i64 (q1 * 131 + q2 * 1117 + p * 29 + q3 * 53) ((q1 * 131 + q2 * 1117 + p * 29 + q3 * 53) / 64) := xor_nonneg (by omega) (by omega) (by omega) (by omega)
        refine ⟨_, (emod_bd (Go.bits .xor .i64 (q1 * 131 + q2 * 1117 + p * 29 + q3 * 53) ((q1 * 131 + q2 * 1117 + p * 29 + q3 * 53) / 64)) (show 0 < n by omega)).1, (emod_bd _ (show 0 < n by omega)).2, fun k => ?_⟩
        rw [spec_l6Rd_pick.j0, if_neg (by simp), e2, if_neg h1, if_neg (by omega), t1, if_pos m1.1, if_pos m1.2, e7, t2, if_pos m2.1, if_pos m2.2, if_neg (by omega), hq1, hq2, d1,
          w64 (x := q1) (by omega) (by omega), w64 (x := q2) (by omega) (by omega), w64 (x := q1 * 131) (by omega) (by omega), w64 (x := q2 * 1117) (by omega) (by omega), w64 (x := q1 * 131 + q2 * 1117) (by omega) (by omega),
          w64 (x := p * 29) (by omega) (by omega), w64 (x := q1 * 131 + q2 * 1117 + p * 29) (by omega) (by omega), w64 (x := q3) (by omega) (by omega), w64 (x := q3 * 53) (by omega) (by omega),
          w64 (x := q1 * 131 + q2 * 1117 + p * 29 + q3 * 53) (by omega) (by omega),
          Int.tdiv_eq_ediv_of_nonneg (a := q1 * 131 + q2 * 1117 + p * 29 + q3 * 53) (by omega), w64 (x := (q1 * 131 + q2 * 1117 + p * 29 + q3 * 53) / 64) (by omega) (by omega), tm hx0]
      obtain ⟨v, h2, h3, h4⟩ := key
      exact ⟨v, h2, h3, Ev.step (f := fun _ => some (v, p + 1)) h4 (Ev.now _)⟩
theorem l91Number_ev {b : List Int} (hb : GB b) {p : Int} (hp : 0 ≤ p) (hp' : p ≤ 500) : ∃ n q, DN n ∧ p ≤ q ∧ q ≤ p + 4 ∧ Ev (fun k => spec_l91Number.f k b p) (n, q) := by
  unfold spec_l91Number.f
  obtain ⟨v, a1, a2, a3⟩ := pick_ev hb (p := p) (n := 30) hp (by omega) (by omega) (by omega)
  by_cases h : v = 0
  · obtain ⟨u, b1, b2, b3⟩ := pick_ev hb (p := p + 1) (n := 6) (by omega) (by omega) (by omega) (by omega)
    have key : DN (rd [0, 5000, 5001, (-5001), 4096, 3969] u) := by
      have : u = 0 ∨ u = 1 ∨ u = 2 ∨ u = 3 ∨ u = 4 ∨ u = 5 := by omega
      rcases this with rfl | rfl | rfl | rfl | rfl | rfl <;> simp [DN, rd]
    refine ⟨_, p + 2, key, by omega, by omega, Ev.bind a3 ?_⟩
    simp only [if_pos h, Option.bind_some]
    refine Ev.bind b3 ?_
    simp only [if_pos b1]
    rw [if_pos (by simp; omega), show p + 1 + 1 = p + 2 by omega]
    exact Ev.now _
  · obtain ⟨u, b1, b2, b3⟩ := pick_ev hb (p := p + 1) (n := 40) (by omega) (by omega) (by omega) (by omega)
    obtain ⟨x, c1, c2, c3⟩ := pick_ev hb (p := p + 1 + 1) (n := 3) (by omega) (by omega) (by omega) (by omega)
    obtain ⟨s, d1, d2, d3⟩ := pick_ev hb (p := p + 1 + 1 + 1) (n := 2) (by omega) (by omega) (by omega) (by omega)
    have hux : 0 ≤ u * (1 + x) ∧ u * (1 + x) ≤ 117 := by
      have : x = 0 ∨ x = 1 ∨ x = 2 := by omega
      rcases this with rfl | rfl | rfl <;> omega
    by_cases hs : s = 0
    · refine ⟨-(1 + u * (1 + x)), p + 4, ?_, by omega, by omega, Ev.bind a3 ?_⟩
      · unfold DN; omega
      simp only [if_neg h]
      refine Ev.bind b3 (Ev.bind c3 (Ev.bind d3 ?_))
      simp only [if_pos hs]
      rw [w64 (x := 1 + x) (by omega) (by omega), w64 (x := u * (1 + x)) (by omega) (by omega), w64 (x := 1 + u * (1 + x)) (by omega) (by omega), w64 (x := -(1 + u * (1 + x))) (by omega) (by omega), show p + 1 + 1 + 1 + 1 = p + 4 by omega]
      exact Ev.now _
    · refine ⟨1 + u * (1 + x), p + 4, ?_, by omega, by omega, Ev.bind a3 ?_⟩
      · unfold DN; omega
      simp only [if_neg h]
      refine Ev.bind b3 (Ev.bind c3 (Ev.bind d3 ?_))
      simp only [if_neg hs]
      rw [w64 (x := 1 + x) (by omega) (by omega), w64 (x := u * (1 + x)) (by omega) (by omega), w64 (x := 1 + u * (1 + x)) (by omega) (by omega), show p + 1 + 1 + 1 + 1 = p + 4 by omega]
      exact Ev.now _
theorem impl_power_l0 {n : Int} {K : Nat} (hK : K ≤ 1000000) (hb : ∀ i, i ≤ K → -4000000000000000000 ≤ n ^ i ∧ n ^ i ≤ 4000000000000000000) : ∀ (d : Nat) (i : Nat), i + d = K → Ev (fun k => impl_power.l0 k n (n ^ i) K i) (n ^ K) := by
  intro d
  induction d with
  | zero =>
    intro i hi
    have : i = K := by omega
    subst this
    refine Ev.step (f := fun _ => some (n ^ i)) (fun k => ?_) (Ev.now _)
    rw [impl_power.l0, if_neg (by omega)]
  | succ d ih =>
    intro i hi
    have := ih (i + 1) (by omega)
    have h1 := hb (i + 1) (by omega)
    rw [Int.pow_succ] at h1
    refine Ev.step (fun k => ?_) this
    rw [impl_power.l0, if_pos (by omega), w64 (x := n ^ i * n) (by omega) (by omega), w64 (x := (i : Int) + 1) (by omega) (by omega), ← Int.pow_succ]
    rfl
theorem impl_power_ev {n : Int} {K : Nat} (hK : K ≤ 1000000) (hb : ∀ i, i ≤ K → -4000000000000000000 ≤ n ^ i ∧ n ^ i ≤ 4000000000000000000) : Ev (fun k => impl_power.f k n K) (n ^ K) := by
  have := impl_power_l0 hK hb K 0 (by omega)
  rw [Int.pow_zero] at this
  exact this
theorem impl_power_small {n : Int} (h : n = 0 ∨ n = 1 ∨ n = -1) {K : Nat} (hK : K ≤ 1000000) : Ev (fun k => impl_power.f k n K) (n ^ K) :=
  impl_power_ev hK fun i _ => by rcases pow_small h i with e | e | e <;> rw [e] <;> omega
theorem impl_JacobiOf_l0 {n m : Int} (h1 : 1 ≤ m) (h5 : m ≤ 5000) (ho : m % 2 = 1) : ∀ (l pre : List Int) (o : Int), pre ++ l = primesL m → (o = 0 ∨ o = 1 ∨ o = -1) → Ev (fun k => impl_JacobiOf.l0 k n m o (primesL m) ((primesL m).length : Int) pre.length) (o * jacL n m l) := by
  have hlen := primesL_length (n := m) (by omega)
  intro l
  induction l with
  | nil =>
    intro pre o e ho'
    have hl : (primesL m).length = pre.length := by rw [← e]; simp
    refine Ev.step (f := fun _ => some o) (fun k => ?_) ?_
    · rw [impl_JacobiOf.l0, if_neg (by omega)]
    · rw [jacL, Int.mul_one]; exact Ev.now _
  | cons p l ih =>
    intro pre o e ho'
    have hl : (primesL m).length = pre.length + (l.length + 1) := by rw [← e]; simp
    have hrd : rd (primesL m) (pre.length : Int) = p := by rw [← e]; exact rd_pre ..
    have hmem : p ∈ primesL m := by rw [← e]; simp
    obtain ⟨hp, hpd, hp2⟩ := odd_of_mem h1 ho hmem
    have hple := primesL_le (by omega) hmem
    have hv := vl_lt hp.1 (show m ≠ 0 by omega)
    have hs := pow_small (leg_cases n p) (vl m p)
    have hos := small_mul ho' hs
    have := ih (pre ++ [p]) (o * leg n p ^ vl m p) (by rw [← e]; simp) hos
    rw [List.length_append] at this
    rw [jacL, ← Int.mul_assoc]
    refine Ev.step (f := fun k => (impl_split.f k m p).bind fun bt => (impl_residue.f k n p).bind fun t => (impl_power.f k t bt.1).bind fun t => impl_JacobiOf.l0 k n m (wrap64 (o * t)) (primesL m) ((primesL m).length : Int) ((pre.length : Int) + 1)) (fun k => ?_)
      (Ev.bind (impl_split_ev hp.1 (by omega) (by omega) (by omega)) (Ev.bind (impl_residue_ev hp hp2 (by omega)) (Ev.bind (impl_power_small (leg_cases n p) (by omega)) ?_)))
    · rw [impl_JacobiOf.l0, if_pos (by omega), if_pos (by omega), if_pos (by omega), hrd, w64 (x := (pre.length : Int) + 1) (by omega) (by omega)]
    · simp only [w64 (x := o * leg n p ^ vl m p) (by omega) (by omega)]
      exact this
theorem impl_JacobiOf_no (n m : Int) : Ev (fun k => impl_JacobiOf.j0 k n m true) (-2) := by
  refine Ev.step (f := fun _ => some (-2)) (fun k => ?_) (Ev.now _)
  rw [impl_JacobiOf.j0, if_pos rfl]
theorem impl_JacobiOf_ev (n m : Int) : Ev (fun k => impl_JacobiOf.f k n m) (jacOf n m) := by
  unfold impl_JacobiOf.f jacOf
  simp only [impl_isNumber_eq, Option.bind_some]
  by_cases h : numB n = true
  · simp only [if_pos h]
    by_cases h1 : m < 1
    · simp only [if_pos h1]; rw [if_neg (by omega)]; exact impl_JacobiOf_no ..
    · simp only [if_neg h1]
      by_cases h5 : m > 5000
      · simp only [if_pos h5]; rw [if_neg (by omega)]; exact impl_JacobiOf_no ..
      · simp only [if_neg h5, tm (show 0 ≤ m by omega)]
        by_cases ho : m % 2 = 1
        · rw [if_pos ⟨h, by omega, by omega, ho⟩]
          have hb : (m % 2 == 0) = false := by rw [beq_eq_false_iff_ne]; omega
          rw [hb]
          refine Ev.step (fun k => by rw [impl_JacobiOf.j0, if_neg (by simp)]) ?_
          refine Ev.bind (impl_primesOf_ev (by omega) (by omega)) ?_
          have := impl_JacobiOf_l0 (n := n) (show 1 ≤ m by omega) (by omega) ho (primesL m) [] 1 rfl (by simp)
          rw [Int.one_mul] at this
          exact this
        · rw [if_neg (fun h => ho h.2.2.2)]
          have hb : (m % 2 == 0) = true := by rw [beq_iff_eq]; omega
          rw [hb]; exact impl_JacobiOf_no ..
  · simp only [if_neg h]; rw [if_neg (fun h' => h h'.1)]; exact impl_JacobiOf_no ..
theorem spec_JacobiOf_l1 {n m p v i : Int} {r : Int} (hp : Pr p) (hp2 : p ≠ 2) (hp5 : p ≤ 5000) (hrd : rd (primesL m) i = p) (hi : 0 ≤ i) (hi' : i < (primesL m).length) (hv : v ≤ 1000000) : ∀ (d : Nat) (o c : Int), 0 ≤ c → c + d = v → (o = 0 ∨ o = 1 ∨ o = -1) →
    Ev (fun k => spec_JacobiOf.l0 k n m (o * leg n p ^ d) (primesL m) (wrap64 (i + 1))) r → Ev (fun k => spec_JacobiOf.l1 k n m o (primesL m) i v c) r := by
  intro d
  induction d with
  | zero =>
    intro o c hc hd ho hr
    rw [Int.pow_zero, Int.mul_one] at hr
    refine Ev.step (fun k => ?_) hr
    rw [spec_JacobiOf.l1, if_neg (by omega)]
  | succ d ih =>
    intro o c hc hd ho hr
    have hos := small_mul ho (leg_cases n p)
    rw [Int.pow_succ, Int.mul_comm (leg n p ^ d), ← Int.mul_assoc] at hr
    have := ih (o * leg n p) (c + 1) (by omega) (by omega) hos hr
    refine Ev.step (f := fun k => (spec_l1Residue.f k n p).bind fun t => spec_JacobiOf.l1 k n m (wrap64 (o * t)) (primesL m) i v (c + 1)) (fun k => ?_) (Ev.bind (spec_l1Residue_ev hp hp2 hp5) ?_)
    · rw [spec_JacobiOf.l1, if_pos (by omega), if_pos hi, if_pos hi', hrd, w64 (x := c + 1) (by omega) (by omega)]
    · simp only [w64 (x := o * leg n p) (by omega) (by omega)]
      exact this
theorem spec_JacobiOf_l0 {n m : Int} (h1 : 1 ≤ m) (h5 : m ≤ 5000) (ho : m % 2 = 1) : ∀ (l pre : List Int) (o : Int), pre ++ l = primesL m → (o = 0 ∨ o = 1 ∨ o = -1) → Ev (fun k => spec_JacobiOf.l0 k n m o (primesL m) pre.length) (o * jacL n m l) := by
  have hlen := primesL_length (n := m) (by omega)
  intro l
  induction l with
  | nil =>
    intro pre o e ho'
    have hl : (primesL m).length = pre.length := by rw [← e]; simp
    refine Ev.step (f := fun _ => some o) (fun k => ?_) ?_
    · rw [spec_JacobiOf.l0, if_neg (by omega)]
    · rw [jacL, Int.mul_one]; exact Ev.now _
  | cons p l ih =>
    intro pre o e ho'
    have hl : (primesL m).length = pre.length + (l.length + 1) := by rw [← e]; simp
    have hrd : rd (primesL m) (pre.length : Int) = p := by rw [← e]; exact rd_pre ..
    have hmem : p ∈ primesL m := by rw [← e]; simp
    obtain ⟨hp, hpd, hp2⟩ := odd_of_mem h1 ho hmem
    have hple := primesL_le (by omega) hmem
    have hv := vl_lt hp.1 (show m ≠ 0 by omega)
    have hs := pow_small (leg_cases n p) (vl m p)
    have hos := small_mul ho' hs
    have := ih (pre ++ [p]) (o * leg n p ^ vl m p) (by rw [← e]; simp) hos
    rw [List.length_append] at this
    rw [jacL, ← Int.mul_assoc]
    refine Ev.step (f := fun k => (spec_l1Valuation.f k m p).bind fun bt => spec_JacobiOf.l1 k n m o (primesL m) pre.length bt.1 0) (fun k => ?_)
      (Ev.bind (spec_l1Valuation_ev hp.1 (by omega) (by omega) (by omega)) (spec_JacobiOf_l1 hp hp2 (by omega) hrd (by omega) (by omega) (by omega) (vl m p) o 0 (by omega) (by omega) ho' ?_))
    · rw [spec_JacobiOf.l0, if_pos (by omega), if_pos (by omega), hrd]
    · rw [w64 (x := (pre.length : Int) + 1) (by omega) (by omega)]
      exact this
theorem spec_JacobiOf_no (n m : Int) : Ev (fun k => spec_JacobiOf.j0 k n m true) (-2) := by
  refine Ev.step (f := fun _ => some (-2)) (fun k => ?_) (Ev.now _)
  rw [spec_JacobiOf.j0, if_pos rfl]
theorem spec_JacobiOf_ev (n m : Int) : Ev (fun k => spec_JacobiOf.f k n m) (jacOf n m) := by
  unfold spec_JacobiOf.f jacOf
  simp only [spec_l1Number_eq, spec_l6In_eq, Option.bind_some]
  by_cases h : numB n = true
  · simp only [if_pos h]
    by_cases hm : 1 ≤ m ∧ m ≤ 5000
    · simp only [decide_eq_true hm, if_true, tm (show 0 ≤ m by omega)]
      by_cases ho : m % 2 = 1
      · rw [if_pos ⟨h, by omega, by omega, ho⟩]
        have hb : (m % 2 == 0) = false := by rw [beq_eq_false_iff_ne]; omega
        rw [hb]
        refine Ev.step (fun k => by rw [spec_JacobiOf.j0, if_neg (by simp)]) ?_
        refine Ev.bind (spec_l1Primes_ev (by omega) (by omega)) ?_
        have := spec_JacobiOf_l0 (n := n) hm.1 hm.2 ho (primesL m) [] 1 rfl (by simp)
        rw [Int.one_mul] at this
        exact this
      · rw [if_neg (fun h => ho h.2.2.2)]
        have hb : (m % 2 == 0) = true := by rw [beq_iff_eq]; omega
        rw [hb]; exact spec_JacobiOf_no ..
    · simp only [decide_eq_false hm]; rw [if_neg (fun h => hm ⟨h.2.1, h.2.2.1⟩)]; exact spec_JacobiOf_no ..
  · simp only [if_neg h]; rw [if_neg (fun h' => h h'.1)]; exact spec_JacobiOf_no ..
theorem DrawJacobiOf_ev {l : List Int} (h : ∀ x ∈ l, (Lit.int .u8 x).wf = true) : ∃ n m, DN n ∧ (0 ≤ m ∧ m ≤ 119) ∧ Ev (fun k => spec_DrawJacobiOf.f k l) (n, m) := by
  obtain ⟨bs, hb, e⟩ := spec_l6Open_eq h
  unfold spec_DrawJacobiOf.f
  simp only [e, Option.bind_some]
  obtain ⟨n, q, a1, a2, a3, a4⟩ := l91Number_ev hb (p := 0) (by omega) (by omega)
  obtain ⟨u, c1, c2, c3⟩ := pick_ev hb (p := q) (n := 60) (by omega) (by omega) (by omega) (by omega)
  obtain ⟨v, d1, d2, d3⟩ := pick_ev hb (p := q + 1) (n := 16) (by omega) (by omega) (by omega) (by omega)
  have t : Int.tdiv v 15 = v / 15 := Int.tdiv_eq_ediv_of_nonneg d1
  refine ⟨n, 2 * u + 1 - v / 15, a1, ⟨by omega, by omega⟩, Ev.bind a4 (Ev.bind c3 (Ev.bind d3 ?_))⟩
  rw [t, w64 (x := v / 15) (by omega) (by omega), w64 (x := 2 * u) (by omega) (by omega), w64 (x := 2 * u + 1) (by omega) (by omega), w64 (x := 2 * u + 1 - v / 15) (by omega) (by omega)]
  exact Ev.now _
theorem reciprocity {n m : Int} (dn : DN n) (hn : numB n = true) (h1 : 1 ≤ n) (hno : n % 2 = 1) (hm : 1 ≤ m) (hm' : m ≤ 119) (ho : m % 2 = 1) : jac m n = (if n % 4 = 3 ∧ m % 4 = 3 then -1 else 1) * jac n m := by
  have hnn := numB_true.1 hn
  rw [jac_C h1 hno, jac_C hm ho]
  have em : 2 * (((m - 1) / 2).toNat : Int) + 1 = m := by omega
  have key : recC n m = true := by
    have : (1 ≤ n ∧ n ≤ 119) ∨ n = 3969 := by unfold DN at dn; omega
    rcases this with h | h
    · have hr := rec_all
      simp only [List.all_eq_true, List.mem_range] at hr
      have := hr ((n - 1) / 2).toNat (by omega) ((m - 1) / 2).toNat (by omega)
      have en : 2 * (((n - 1) / 2).toNat : Int) + 1 = n := by omega
      rw [en, em] at this
      exact this
    · have hr := rec_3969
      simp only [List.all_eq_true, List.mem_range] at hr
      have := hr ((m - 1) / 2).toNat (by omega)
      rw [em] at this
      rw [h]; exact this
  unfold recC at key
  exact beq_iff_eq.1 key
theorem FnReciprocity : laws_FnReciprocity.Pure := by
  intro l _ _ hl
  refine Ev.rounds ?_
  unfold laws_FnReciprocity.f
  by_cases hlen : (l.length : Int) > 1048576
  · simp only [if_pos hlen]; exact Ev.now _
  · simp only [if_neg hlen]
    obtain ⟨n, m, dn, dm, hev⟩ := DrawJacobiOf_ev hl
    refine Ev.bind hev (Ev.bind (impl_JacobiOf_ev n m) (Ev.bind (spec_JacobiOf_ev n m) ?_))
    simp only [if_true]
    by_cases hc : numB n = true ∧ 1 ≤ m ∧ m ≤ 5000 ∧ m % 2 = 1
    · have hv : jacOf n m = jac n m := by unfold jacOf; rw [if_pos hc]
      have hn := numB_true.1 hc.1
      have hs := jac_small n m
      rw [hv]
      have hb : (jac n m == -2) = false := by rw [beq_eq_false_iff_ne]; omega
      rw [hb]
      refine Ev.step (fun k => by rw [laws_FnReciprocity.j0, if_neg (by simp)]) ?_
      refine Ev.bind (impl_GcdOf_ev n m) ?_
      have hg : gcdOf n m = (Int.gcd n m : Int) := by unfold gcdOf; rw [if_pos ⟨hc.1, numB_true.2 ⟨by omega, by omega⟩⟩]
      have hz : ((jac n m == 0) == decide ((Int.gcd n m : Int) > 1)) = true := by
        rw [beq_iff_eq, beq_decide, decide_eq_decide]; exact jac_zero hc.2.1
      rw [hg, hz]
      have no : Ev (fun k => laws_FnReciprocity.j1 k n m (jac n m) true true) true :=
        Ev.step (f := fun _ => some true) (fun k => by rw [laws_FnReciprocity.j1, if_pos rfl]) (Ev.now _)
      by_cases h1 : n < 1
      · simp only [if_pos h1]; exact no
      · simp only [if_neg h1, tm (show 0 ≤ n by omega)]
        by_cases h2 : n % 2 = 0
        · rw [show (n % 2 == 0) = true by rw [beq_iff_eq]; exact h2]; exact no
        · rw [show (n % 2 == 0) = false by rw [beq_eq_false_iff_ne]; exact h2]
          have hm4 : Int.tmod m 4 = m % 4 := tm (by omega)
          have hn4 : Int.tmod n 4 = n % 4 := tm (by omega)
          refine Ev.step (fun k => by rw [laws_FnReciprocity.j1, if_neg (by simp), hm4, hn4]) ?_
          refine Ev.bind (impl_JacobiOf_ev m n) ?_
          have hv2 : jacOf m n = jac m n := by unfold jacOf; rw [if_pos ⟨numB_true.2 ⟨by omega, by omega⟩, by omega, by omega, by omega⟩]
          have hr := reciprocity dn hc.1 (by omega) (by omega) hc.2.1 dm.2 hc.2.2.2
          rw [hv2, hr]
          simp only [if_true, w64 (x := -1 * jac n m) (by omega) (by omega), w64 (x := 1 * jac n m) (by omega) (by omega)]
          by_cases h3 : n % 4 = 3
          · by_cases h4 : m % 4 = 3
            · simp only [if_pos h3, if_pos h4, if_pos (show n % 4 = 3 ∧ m % 4 = 3 from ⟨h3, h4⟩), beq_self_eq_true]; exact Ev.now _
            · simp only [if_pos h3, if_neg h4, if_neg (show ¬ (n % 4 = 3 ∧ m % 4 = 3) from fun h => h4 h.2), beq_self_eq_true]; exact Ev.now _
          · simp only [if_neg h3, if_neg (show ¬ (n % 4 = 3 ∧ m % 4 = 3) from fun h => h3 h.1), beq_self_eq_true]; exact Ev.now _
    · have hv : jacOf n m = -2 := by unfold jacOf; rw [if_neg hc]
      rw [hv]
      refine Ev.step (f := fun _ => some true) (fun k => ?_) (Ev.now _)
      rw [laws_FnReciprocity.j0, if_pos (by simp), beq_self_eq_true]

end Go.Proofs.Ytpcocojkhcokmaa.Pure
