/- At every draw the program's LocalPlaces is the reference's; at each place the number is a local square or the place is listed, and there is no such place exactly for squares.
No condition beyond the given statement. The printed functions are tied to plain arithmetic one by one; the law follows at the end. -/
import Derived.Test.YtclembpedndihaaWSized
import Derived.Test.YtclembpedndihaaOwnFnLocalPlacesx7
import Derived.Test.YtclembpedndihaaM14
set_option linter.unusedVariables false
set_option linter.unusedSimpArgs false
namespace Go.Proofs.Ytclembpedndihaa
open Go.ChangeShapes Go.WideShapes
/-- The words' lemma on the length of a slice, under the name by which the row of this law calls it. -/
theorem PrintWords.sized_ints {H : Type} {enc : TypeId × Value → H} {P : Program} {W : World} {base : Nat} {spare : Nat → Bool} {held : Bool} {t e : TypeId} {k : IntKind} {a : Option Addr} {len cap : Nat} {d : DataW H} {ps : List MemPlace} {ts : List TypeId} {ds : List (DataW H)} {j : Nat}
    (hsz : (DataW.weightsEach P ts ds).all (· ≤ reachBytes) = true) (ht : ts[j]? = some t) (hd : ds[j]? = some d) (hu : P.underlying t = some (.slice e)) (he : P.underlying e = some (.int k)) (hc : P.cellsOf e = 1) {B : Nat} (hB : P.bytesOf e = B)
    (h : DataW.Trod enc P W base spare held t (.slice a len cap) d ps) : len * B ≤ 140737488351232 :=
  Go.Proofs.YtclembpedndihaaW.PrintWords.sized_ints hsz ht hd hu he hc hB h
end Go.Proofs.Ytclembpedndihaa
namespace Go.Proofs.Ytclembpedndihaa.Pure
open Go.RowKit Go.Proofs.Ytclembpedndihaa.PFnLocalPlaces Go.Proofs.YtclembpedndihaaW.PrintWords Go.Proofs.YtclembpedndihaaW.PrintLast Go.Proofs.YtclembpedndihaaW.PrintMore Go.Proofs.LG

theorem spec_l6In_eq (a b c : Int) : spec_l6In.f a b c = some (decide (b ≤ a ∧ a ≤ c)) := by
  unfold spec_l6In.f
  by_cases h : a ≥ b
  · rw [if_pos h]; congr 1; rw [decide_eq_decide]; omega
  · rw [if_neg h]; congr 1; symm; rw [decide_eq_false_iff_not]; omega
theorem spec_l1Number_eq (a : Int) : spec_l1Number.f a = some (numB a) := by
  unfold spec_l1Number.f; rw [spec_l6In_eq]; rfl
theorem impl_isNumber_eq (a : Int) : impl_isNumber.f a = some (numB a) := by
  unfold impl_isNumber.f numB
  by_cases h : a ≥ -5000
  · rw [if_pos h]; congr 1; rw [decide_eq_decide]; omega
  · rw [if_neg h]; congr 1; symm; rw [decide_eq_false_iff_not]; omega
theorem impl_prime_l0 {n : Int} (h2 : 2 ≤ n) (hn : n ≤ 5000) : ∀ (d : Nat) (x : Int), 2 ≤ x → x ≤ n → n - x ≤ d → (∀ y, 2 ≤ y → y < x → ¬ y ∣ n) → Ev (fun k => impl_prime.l0 k n x) (prB n) := by
  intro d
  induction d with
  | zero =>
    intro x hx hxn hd h
    have := sq_gt hx (show n ≤ x by omega)
    have hb := mul_bd (show 0 ≤ x by omega) (show x ≤ 5000 by omega) (show 0 ≤ x by omega) (show x ≤ 5000 by omega)
    refine Ev.step (f := fun _ => some true) (fun k => ?_) ?_
    · rw [impl_prime.l0, w64 (by omega) (by omega), if_neg (by omega), decide_eq_true (by omega)]
    · rw [prB_true.2 ⟨pr_of_none h2 x (by omega) (by omega) h, hn⟩]; exact Ev.now _
  | succ d ih =>
    intro x hx hxn hd h
    have hb := mul_bd (show 0 ≤ x by omega) (show x ≤ 5000 by omega) (show 0 ≤ x by omega) (show x ≤ 5000 by omega)
    by_cases hle : x * x ≤ n
    · by_cases hdv : x ∣ n
      · have hlt : x < n := by
          have := sq_gt hx (Int.le_refl x); omega
        refine Ev.step (f := fun _ => some false) (fun k => ?_) ?_
        · rw [impl_prime.l0, w64 (by omega) (by omega), if_pos hle, if_neg (by omega), if_pos (Int.tmod_eq_zero_of_dvd hdv)]
        · rw [prB_false.2 fun hp => hp.1.2 x hx hlt hdv]; exact Ev.now _
      · have hlt : x < n := by
          have := sq_gt hx (Int.le_refl x); omega
        refine Ev.step (f := fun k => impl_prime.l0 k n (x + 1)) (fun k => ?_) (ih (x + 1) (by omega) (by omega) (by omega) ?_)
        · rw [impl_prime.l0, w64 (by omega) (by omega), if_pos hle, if_neg (by omega), if_neg (fun e => hdv (Int.dvd_of_tmod_eq_zero e)), w64 (by omega) (by omega)]
        · intro y h1 h2'
          by_cases e : y = x
          · subst e; exact hdv
          · exact h y h1 (by omega)
    · refine Ev.step (f := fun _ => some true) (fun k => ?_) ?_
      · rw [impl_prime.l0, w64 (by omega) (by omega), if_neg hle, decide_eq_true (by omega)]
      · rw [prB_true.2 ⟨pr_of_none h2 x (by omega) (by omega) h, hn⟩]; exact Ev.now _
theorem impl_PrimeIs_ev (n : Int) : Ev (fun k => impl_PrimeIs.f k n) (prB n) := by
  unfold impl_PrimeIs.f
  by_cases h5 : n ≤ 5000
  · simp only [if_pos h5]
    refine Ev.bind (a := prB n) ?_ (Ev.now _)
    unfold impl_prime.f
    by_cases h : 2 ≤ n
    · exact impl_prime_l0 h h5 (n - 2).toNat 2 (by omega) (by omega) (by omega) fun y h1 h2 => by omega
    · refine Ev.step (f := fun _ => some false) (fun k => ?_) ?_
      · rw [impl_prime.l0, w64 (by omega) (by omega), if_neg (by omega), decide_eq_false (by omega)]
      · rw [prB_false.2 fun hp => h hp.1.1]; exact Ev.now _
  · simp only [if_neg h5]
    rw [prB_false.2 fun hp => h5 hp.2]
    exact Ev.now _
theorem impl_PlaceValid_ev (n : Int) : Ev (fun k => impl_PlaceValid.f k n) (plB n) := by
  unfold impl_PlaceValid.f plB
  by_cases h : n = 0
  · simp only [if_pos h, h, decide_true, Bool.true_or]; exact Ev.now _
  · simp only [if_neg h, decide_eq_false h, Bool.false_or]
    exact Ev.bind (impl_PrimeIs_ev n) (Ev.now _)
theorem spec_l1Mod_eq {n m : Int} (h0 : 0 < m) (h1 : m ≤ 1000000000) : spec_l1Mod.f n m = some (n % m) := by
  unfold spec_l1Mod.f; rw [if_neg (by omega), rest_form h0 h1]
theorem impl_rest_eq {n m : Int} (h0 : 0 < m) (h1 : m ≤ 1000000000) : impl_rest.f n m = some (n % m) := by
  unfold impl_rest.f; rw [if_neg (by omega), rest_form h0 h1]
theorem spec_l1Valuation_l0 {p : Int} (hp : 2 ≤ p) (hp' : p ≤ 1000000000000000) : ∀ (f : Nat) (n : Int), n ≠ 0 → n.natAbs ≤ f → n.natAbs ≤ 1000000000000000 → ∀ c : Int, 0 ≤ c → c + f ≤ 2000000000000000 → Ev (fun k => spec_l1Valuation.l0 k n p c) (c + (spl f n p).1, (spl f n p).2) := by
  intro f
  induction f with
  | zero => intro n hn hf; omega
  | succ f ih =>
    intro n hn hf hb c hc hcf
    rw [spl]
    by_cases h : n % p = 0
    · obtain ⟨h1, h2, h3⟩ := div_smaller hp hn h
      rw [if_pos h]
      have := ih (n / p) h1 (by omega) (by omega) (c + 1) (by omega) (by omega)
      have e : c + (((spl f (n / p) p).1 + 1 : Nat) : Int) = c + 1 + ((spl f (n / p) p).1 : Int) := by omega
      show Ev (fun k => spec_l1Valuation.l0 k n p c) (c + (((spl f (n / p) p).1 + 1 : Nat) : Int), (spl f (n / p) p).2)
      rw [e]
      refine Ev.step (fun k => ?_) this
      rw [spec_l1Valuation.l0, if_neg (by omega), if_pos (tm_zero.2 h), td_dvd h, w64 (by omega) (by omega), w64 (by omega) (by omega)]
    · rw [if_neg h]
      refine Ev.step (f := fun _ => some (c, n)) (fun k => ?_) ?_
      · rw [spec_l1Valuation.l0, if_neg (by omega), if_neg (fun e => h (tm_zero.1 e))]
      · have e : c + ((0 : Nat) : Int) = c := by omega
        show Ev _ (c + ((0 : Nat) : Int), n)
        rw [e]; exact Ev.now _
theorem spec_l1Valuation_ev {n p : Int} (hp : 2 ≤ p) (hp' : p ≤ 1000000000000000) (hn : n ≠ 0) (hb : n.natAbs ≤ 1000000000000000) : Ev (fun k => spec_l1Valuation.f k n p) ((vl n p : Int), un n p) := by
  have := spec_l1Valuation_l0 hp hp' n.natAbs n hn (Nat.le_refl _) hb 0 (by omega) (by omega)
  rw [Int.zero_add] at this
  exact this
theorem impl_split_l0 {p : Int} (hp : 2 ≤ p) (hp' : p ≤ 1000000000000000) : ∀ (f : Nat) (n : Int), n ≠ 0 → n.natAbs ≤ f → n.natAbs ≤ 1000000000000000 → ∀ c : Int, 0 ≤ c → c + f ≤ 2000000000000000 → Ev (fun k => impl_split.l0 k n p c) (c + (spl f n p).1, (spl f n p).2) := by
  intro f
  induction f with
  | zero => intro n hn hf; omega
  | succ f ih =>
    intro n hn hf hb c hc hcf
    rw [spl]
    by_cases h : n % p = 0
    · obtain ⟨h1, h2, h3⟩ := div_smaller hp hn h
      rw [if_pos h]
      have := ih (n / p) h1 (by omega) (by omega) (c + 1) (by omega) (by omega)
      have e : c + (((spl f (n / p) p).1 + 1 : Nat) : Int) = c + 1 + ((spl f (n / p) p).1 : Int) := by omega
      show Ev (fun k => impl_split.l0 k n p c) (c + (((spl f (n / p) p).1 + 1 : Nat) : Int), (spl f (n / p) p).2)
      rw [e]
      refine Ev.step (fun k => ?_) this
      rw [impl_split.l0, if_neg (by omega), if_pos (tm_zero.2 h), td_dvd h, w64 (by omega) (by omega), w64 (by omega) (by omega)]
    · rw [if_neg h]
      refine Ev.step (f := fun _ => some (c, n)) (fun k => ?_) ?_
      · rw [impl_split.l0, if_neg (by omega), if_neg (fun e => h (tm_zero.1 e))]
      · have e : c + ((0 : Nat) : Int) = c := by omega
        show Ev _ (c + ((0 : Nat) : Int), n)
        rw [e]; exact Ev.now _
theorem impl_split_ev {n p : Int} (hp : 2 ≤ p) (hp' : p ≤ 1000000000000000) (hn : n ≠ 0) (hb : n.natAbs ≤ 1000000000000000) : Ev (fun k => impl_split.f k n p) ((vl n p : Int), un n p) := by
  have := impl_split_l0 hp hp' n.natAbs n hn (Nat.le_refl _) hb 0 (by omega) (by omega)
  rw [Int.zero_add] at this
  exact this
theorem impl_squareRoot_l0 {n : Int} (hn : 0 ≤ n) (hn' : n ≤ 1000000) : ∀ (j : Nat) (x b : Int), 0 ≤ x → b = 2 ^ j → j ≤ 30 → x ≤ 1000000 → x * x ≤ n → n < (x + 2 * b) * (x + 2 * b) → ∃ r : Int, 0 ≤ r ∧ r * r ≤ n ∧ n < (r + 1) * (r + 1) ∧ Ev (fun k => impl_squareRoot.l0 k n x b) (r, r * r == n) := by
  intro j
  induction j with
  | zero =>
    intro x b h0 hb hj hx h1 h2
    have hb1 : b = 1 := by rw [hb]; rfl
    subst hb1
    have bd := mul_bd (show 0 ≤ x + 1 by omega) (show x + 1 ≤ 1000001 by omega) (show 0 ≤ x + 1 by omega) (show x + 1 ≤ 1000001 by omega)
    have bd2 := mul_bd h0 hx h0 hx
    by_cases hle : (x + 1) * (x + 1) ≤ n
    · have hx1 : x + 1 ≤ 1000000 := by
        by_cases h : x + 1 ≤ 1000000
        · exact h
        · have := mul_bd (show 0 ≤ (1000000 : Int) by omega) (show (1000000:Int) ≤ x + 1 by omega) (show 0 ≤ (1000000 : Int) by omega) (show (1000000:Int) ≤ x + 1 by omega)
          omega
      refine ⟨x + 1, by omega, hle, ?_, ?_⟩
      · have e : x + 2 * 1 = x + 1 + 1 := by omega
        rw [e] at h2; exact h2
      · refine Ev.step (f := fun k => impl_squareRoot.l0 k n (x + 1) 0) (fun k => ?_) (Ev.step (f := fun _ => some (x + 1, (x + 1) * (x + 1) == n)) (fun k => ?_) (Ev.now _))
        · rw [impl_squareRoot.l0, if_pos (by omega), w64 (x := x + 1) (by omega) (by omega), w64 (x := (x + 1) * (x + 1)) (by omega) (by omega), if_pos hle, half_one]
        · rw [impl_squareRoot.l0, if_neg (by omega), w64 (x := (x + 1) * (x + 1)) (by omega) (by omega)]
    · refine ⟨x, h0, h1, by omega, ?_⟩
      refine Ev.step (f := fun k => impl_squareRoot.l0 k n x 0) (fun k => ?_) (Ev.step (f := fun _ => some (x, x * x == n)) (fun k => ?_) (Ev.now _))
      · rw [impl_squareRoot.l0, if_pos (by omega), w64 (x := x + 1) (by omega) (by omega), w64 (x := (x + 1) * (x + 1)) (by omega) (by omega), if_neg hle, half_one]
      · rw [impl_squareRoot.l0, if_neg (by omega), w64 (x := x * x) (by omega) (by omega)]
  | succ j ih =>
    intro x b h0 hb hj hx h1 h2
    have hbp : b = 2 * 2 ^ j := by rw [hb, Int.pow_succ]; omega
    have hj1 : (1 : Int) ≤ 2 ^ j := pow_pos' (by omega) j
    have hj2 : (2 : Int) ^ j ≤ 1073741824 := by
      have h30 : ((2 : Nat) ^ j) ≤ 2 ^ 30 := Nat.pow_le_pow_right (by omega) (by omega)
      have e : ((2 ^ j : Nat) : Int) = (2 : Int) ^ j := by rw [Int.natCast_pow]; rfl
      rw [← e]
      have : (2 : Nat) ^ 30 = 1073741824 := by decide
      omega
    have bd := mul_bd (show 0 ≤ x + b by omega) (show x + b ≤ 3000000000 by omega) (show 0 ≤ x + b by omega) (show x + b ≤ 3000000000 by omega)
    have hhalf : Int.tdiv b 2 = 2 ^ j := by rw [hbp, Int.mul_tdiv_cancel_left _ (by omega)]
    by_cases hle : (x + b) * (x + b) ≤ n
    · have hx1 : x + b ≤ 1000000 := by
        by_cases h : x + b ≤ 1000000
        · exact h
        · have := mul_bd (show 0 ≤ (1000001 : Int) by omega) (show (1000001:Int) ≤ x + b by omega) (show 0 ≤ (1000001 : Int) by omega) (show (1000001:Int) ≤ x + b by omega)
          omega
      obtain ⟨r, a1, a2, a3, a4⟩ := ih (x + b) (2 ^ j) (by omega) rfl (by omega) hx1 hle (by
        have e : x + b + 2 * 2 ^ j = x + 2 * b := by omega
        rw [e]; exact h2)
      refine ⟨r, a1, a2, a3, Ev.step (fun k => ?_) a4⟩
      rw [impl_squareRoot.l0, if_pos (by omega), w64 (x := x + b) (by omega) (by omega), w64 (x := (x + b) * (x + b)) (by omega) (by omega), if_pos hle, hhalf, w64 (by omega) (by omega)]
    · obtain ⟨r, a1, a2, a3, a4⟩ := ih x (2 ^ j) h0 rfl (by omega) hx h1 (by rw [← hbp]; omega)
      refine ⟨r, a1, a2, a3, Ev.step (fun k => ?_) a4⟩
      rw [impl_squareRoot.l0, if_pos (by omega), w64 (x := x + b) (by omega) (by omega), w64 (x := (x + b) * (x + b)) (by omega) (by omega), if_neg hle, hhalf, w64 (by omega) (by omega)]
theorem impl_isSquare_ev {n : Int} (hn' : n ≤ 1000000) : Ev (fun k => impl_isSquare.f k n) (sqB n) := by
  unfold impl_isSquare.f impl_squareRoot.f
  by_cases h : n < 0
  · simp only [if_pos h, Option.bind_some]
    have : sqB n = false := by
      rw [sqB_false]
      rintro ⟨k, hk⟩
      have := sq_nonneg k
      omega
    rw [this]; exact Ev.now _
  · simp only [if_neg h]
    obtain ⟨r, a1, a2, a3, a4⟩ := impl_squareRoot_l0 (n := n) (by omega) hn' 30 0 1073741824 (by omega) (by decide) (by omega) (by omega) (by omega) (by omega)
    refine Ev.bind a4 ?_
    have : sqB n = (r * r == n) := by
      by_cases e : r * r = n
      · rw [sqB_true.2 ⟨r, e⟩, beq_iff_eq.2 e]
      · rw [beq_false_of_ne e, sqB_false]
        rintro ⟨k, hk⟩
        have hjj : ∃ y : Int, 0 ≤ y ∧ y * y = n := by
          by_cases h : 0 ≤ k
          · exact ⟨k, h, hk⟩
          · exact ⟨-k, by omega, by rw [Int.neg_mul_neg]; exact hk⟩
        obtain ⟨y, hy0, hy⟩ := hjj
        by_cases hyr : y ≤ r
        · by_cases hyr' : y = r
          · exact e (hyr' ▸ hy)
          · have h1 : (y + 1) * (y + 1) ≤ r * r := Int.mul_le_mul (by omega) (by omega) (by omega) (by omega)
            have h2 : (y + 1) * (y + 1) = y * y + 2 * y + 1 := by grind
            omega
        · have h1 : (r + 1) * (r + 1) ≤ y * y := Int.mul_le_mul (by omega) (by omega) (by omega) (by omega)
          omega
    rw [this]; exact Ev.now _
theorem impl_SquareIs_ev (n : Int) : Ev (fun k => impl_SquareIs.f k n) (squareOf n) := by
  unfold impl_SquareIs.f squareOf
  simp only [impl_isNumber_eq, Option.bind_some]
  by_cases h : numB n = true
  · simp only [if_pos h]
    have hn := numB_true.1 h
    rw [h, Bool.true_and]
    exact Ev.bind (impl_isSquare_ev (by omega)) (Ev.now _)
  · simp only [if_neg h]
    rw [Bool.not_eq_true] at h
    rw [h, Bool.false_and]; exact Ev.now _
theorem spec_l1Power_l0 {m : Int} (hm : 1 ≤ m) (hm' : m ≤ 5000) : ∀ (f : Nat) (b e o : Int), 0 ≤ e → e ≤ f → e ≤ 1000000000 → 0 ≤ b → b < m → 0 ≤ o → o < m → Ev (fun k => spec_l1Power.l0 k b e m o) (o * b ^ e.toNat % m) := by
  intro f
  induction f with
  | zero =>
    intro b e o he hf hE hb hb' ho ho'
    have : e = 0 := by omega
    subst this
    have e1 : o * b ^ (0 : Int).toNat % m = o := by
      show o * b ^ 0 % m = o
      rw [Int.pow_zero, Int.mul_one, Int.emod_eq_of_lt ho ho']
    rw [e1]
    refine Ev.step (f := fun _ => some o) (fun k => ?_) (Ev.now _)
    rw [spec_l1Power.l0, if_neg (by omega)]
  | succ f ih =>
    intro b e o he hf hE hb hb' ho ho'
    by_cases h0 : e = 0
    · subst h0
      have e1 : o * b ^ (0 : Int).toNat % m = o := by
        show o * b ^ 0 % m = o
        rw [Int.pow_zero, Int.mul_one, Int.emod_eq_of_lt ho ho']
      rw [e1]
      refine Ev.step (f := fun _ => some o) (fun k => ?_) (Ev.now _)
      rw [spec_l1Power.l0, if_neg (by omega)]
    · have bb := mul_bd hb (show b ≤ 5000 by omega) hb (show b ≤ 5000 by omega)
      have ob := mul_bd ho (show o ≤ 5000 by omega) hb (show b ≤ 5000 by omega)
      have r1 := emod_bd (b * b) (show 0 < m by omega)
      have r2 := emod_bd (o * b) (show 0 < m by omega)
      have hd : Int.tdiv e 2 = e / 2 := Int.tdiv_eq_ediv_of_nonneg he
      by_cases h1 : e % 2 = 1
      · have := ih (b * b % m) (e / 2) (o * b % m) (by omega) (by omega) (by omega) r1.1 r1.2 r2.1 r2.2
        have e1 : o * b % m * (b * b % m) ^ (e / 2).toNat % m = o * b ^ e.toNat % m := by
          have ee : e.toNat = 2 * (e / 2).toNat + 1 := by omega
          rw [Int.mul_emod, Int.emod_emod, emod_pow, ← Int.mul_emod, ee, Int.pow_succ, Int.pow_mul, pow_two']
          congr 1; grind
        rw [e1] at this
        refine Ev.step (fun k => ?_) this
        rw [spec_l1Power.l0, if_pos (by omega), tm he, if_pos h1, if_neg (by omega), w64 (x := b * b) (by omega) (by omega), tm bb.1, hd, w64 (x := e / 2) (by omega) (by omega), w64 (x := o * b) (by omega) (by omega), tm ob.1]
      · have := ih (b * b % m) (e / 2) o (by omega) (by omega) (by omega) r1.1 r1.2 ho ho'
        have e1 : o * (b * b % m) ^ (e / 2).toNat % m = o * b ^ e.toNat % m := by
          have ee : e.toNat = 2 * (e / 2).toNat := by omega
          rw [Int.mul_emod, emod_pow, ← Int.mul_emod, ee, Int.pow_mul, pow_two']
        rw [e1] at this
        refine Ev.step (fun k => ?_) this
        rw [spec_l1Power.l0, if_pos (by omega), tm he, if_neg h1, if_neg (by omega), w64 (x := b * b) (by omega) (by omega), tm bb.1, hd, w64 (x := e / 2) (by omega) (by omega)]
theorem spec_l1Power_ev {n e m : Int} (he : 0 ≤ e) (he' : e ≤ 1000000000) (hm : 1 ≤ m) (hm' : m ≤ 5000) : Ev (fun k => spec_l1Power.f k n e m) (n ^ e.toNat % m) := by
  unfold spec_l1Power.f
  simp only [if_neg (show ¬ m = 0 by omega), spec_l1Mod_eq (n := n) (show 0 < m by omega) (by omega), Option.bind_some]
  have r1 := emod_bd n (show 0 < m by omega)
  have r2 := emod_bd 1 (show 0 < m by omega)
  have := spec_l1Power_l0 hm hm' e.toNat (n % m) e (1 % m) he (by omega) he' r1.1 r1.2 r2.1 r2.2
  have e1 : 1 % m * (n % m) ^ e.toNat % m = n ^ e.toNat % m := by
    rw [Int.mul_emod, Int.emod_emod, emod_pow, ← Int.mul_emod, Int.one_mul]
  rw [e1] at this
  exact this
theorem spec_l1Size_eq {n : Int} (h : -1000000000000 ≤ n) (h' : n ≤ 1000000000000) : spec_l1Size.f n = some (n.natAbs : Int) := by
  unfold spec_l1Size.f mx
  rw [w64 (by omega) (by omega)]
  congr 1
  split <;> omega
theorem impl_size_eq {n : Int} (h : -1000000000000 ≤ n) (h' : n ≤ 1000000000000) : impl_size.f n = some (n.natAbs : Int) := by
  unfold impl_size.f mx
  rw [w64 (by omega) (by omega)]
  congr 1
  split <;> omega
theorem impl_primesOf_l0 : ∀ (f : Nat) (n : Int) (acc : List Int) (p : Int), 1 ≤ n → n ≤ 1000000 → 2 ≤ p → p ≤ 1000002 → n < f + p → (acc.length : Int) ≤ p → Ev (fun k => impl_primesOf.l0 k n acc p) (pfl f n acc p) := by
  intro f
  have last : ∀ (n : Int) (acc : List Int) (p : Int), 1 ≤ n → n ≤ 1000000 → 2 ≤ p → p ≤ 1000002 → n < p * p → (acc.length : Int) ≤ p → Ev (fun k => impl_primesOf.l0 k n acc p) (if n > 1 then acc ++ [n] else acc) := by
    intro n acc p hn hn' hp hp' hlt hl
    have hb := mul_bd (show 0 ≤ p by omega) hp' (show 0 ≤ p by omega) hp'
    refine Ev.step (f := fun _ => some (if n > 1 then acc ++ [n] else acc)) (fun k => ?_) (Ev.now _)
    rw [impl_primesOf.l0, w64 (by omega) (by omega), if_neg (by omega)]
    by_cases h1 : n > 1
    · rw [if_pos h1, if_pos h1, if_pos (by omega)]
    · rw [if_neg h1, if_neg h1]
  induction f with
  | zero =>
    intro n acc p hn hn' hp hp' hf hl
    rw [pfl]
    exact last n acc p hn hn' hp hp' (sq_gt hp (by omega)) hl
  | succ f ih =>
    intro n acc p hn hn' hp hp' hf hl
    have hb := mul_bd (show 0 ≤ p by omega) hp' (show 0 ≤ p by omega) hp'
    rw [pfl]
    by_cases hle : p * p ≤ n
    · rw [if_pos hle]
      have hpn : p ≤ n := by have := sq_gt hp (Int.le_refl p); omega
      by_cases hm : n % p = 0
      · rw [if_pos hm]
        have hu := un_pos hp hn
        refine Ev.step (f := fun k => (impl_split.f k n p).bind fun bt => impl_primesOf.l0 k bt.2 (acc ++ [p]) (p + 1)) (fun k => ?_) (Ev.bind (impl_split_ev hp (by omega) (by omega) (by omega)) (ih (un n p) (acc ++ [p]) (p + 1) hu.1 (by omega) (by omega) (by omega) (by omega) (by simp; omega)))
        rw [impl_primesOf.l0, w64 (x := p * p) (by omega) (by omega), if_pos hle, if_neg (by omega), if_pos (tm_zero.2 hm), if_pos (by omega), w64 (x := p + 1) (by omega) (by omega)]
      · rw [if_neg hm]
        refine Ev.step (fun k => ?_) (ih n acc (p + 1) hn hn' (by omega) (by omega) (by omega) (by omega))
        rw [impl_primesOf.l0, w64 (x := p * p) (by omega) (by omega), if_pos hle, if_neg (by omega), if_neg (fun e => hm (tm_zero.1 e)), w64 (x := p + 1) (by omega) (by omega)]
    · rw [if_neg hle]
      exact last n acc p hn hn' hp hp' (by omega) hl
theorem impl_primesOf_ev {n : Int} (hn : n ≠ 0) (hb : n.natAbs ≤ 1000000) : Ev (fun k => impl_primesOf.f k n) (primesL n) := by
  unfold impl_primesOf.f
  simp only [impl_size_eq (n := n) (by omega) (by omega), Option.bind_some]
  exact impl_primesOf_l0 n.natAbs n.natAbs [] 2 (by omega) (by omega) (by omega) (by omega) (by omega) (by simp)
theorem impl_residue_l0 {n p : Int} (hp : Pr p) (h2 : p ≠ 2) (hp' : p ≤ 5000) (hn : ¬ p ∣ n) : ∀ (d : Nat) (x : Int), 1 ≤ x → x + d = p / 2 + 1 → (∀ y, 1 ≤ y → y < x → y * y % p ≠ n % p) → Ev (fun k => impl_residue.l0 k p (n % p) x) (leg n p) := by
  have h0 := hp.1
  intro d
  induction d with
  | zero =>
    intro x hx hd h
    have : leg n p = -1 := leg_neg hn (fun hr => by
      obtain ⟨y, h1, h3, h4⟩ := (isRes_half hp h2 hn).1 hr
      exact h y h1 (by omega) h4)
    rw [this]
    refine Ev.step (f := fun _ => some (-1)) (fun k => ?_) (Ev.now _)
    rw [impl_residue.l0, tdiv_half (by omega), w64 (by omega) (by omega), if_neg (by omega)]
  | succ d ih =>
    intro x hx hd h
    have hb := mul_bd (show 0 ≤ x by omega) (show x ≤ 5000 by omega) (show 0 ≤ x by omega) (show x ≤ 5000 by omega)
    by_cases e : x * x % p = n % p
    · have : leg n p = 1 := leg_one hn ((isRes_half hp h2 hn).2 ⟨x, hx, by omega, e⟩)
      rw [this]
      refine Ev.step (f := fun _ => some 1) (fun k => ?_) (Ev.now _)
      rw [impl_residue.l0, tdiv_half (by omega), w64 (x := p / 2) (by omega) (by omega), if_pos (by omega), if_neg (by omega), w64 (by omega) (by omega), tm hb.1, if_pos e]
    · refine Ev.step (fun k => ?_) (ih (x + 1) (by omega) (by omega) fun y h1 h3 => ?_)
      · rw [impl_residue.l0, tdiv_half (by omega), w64 (x := p / 2) (by omega) (by omega), if_pos (by omega), if_neg (by omega), w64 (x := x * x) (by omega) (by omega), tm hb.1, if_neg e, w64 (by omega) (by omega)]
      · by_cases e' : y = x
        · subst e'; exact e
        · exact h y h1 (by omega)
theorem impl_residue_ev {n p : Int} (hp : Pr p) (h2 : p ≠ 2) (hp' : p ≤ 5000) : Ev (fun k => impl_residue.f k n p) (leg n p) := by
  have h0 := hp.1
  unfold impl_residue.f
  simp only [impl_rest_eq (n := n) (show 0 < p by omega) (by omega), Option.bind_some]
  by_cases h : n % p = 0
  · simp only [if_pos h]; rw [leg_zero (Int.dvd_of_emod_eq_zero h)]; exact Ev.now _
  · simp only [if_neg h]
    exact impl_residue_l0 hp h2 hp' (fun hd => h (Int.emod_eq_zero_of_dvd hd)) (p / 2).toNat 1 (by omega) (by omega) (fun y h1 h3 => by omega)
theorem spec_l1Residue_ev {n p : Int} (hp : Pr p) (h2 : p ≠ 2) (hp' : p ≤ 5000) : Ev (fun k => spec_l1Residue.f k n p) (leg n p) := by
  have h0 := hp.1
  obtain ⟨h, hh, h1⟩ := odd_prime hp h2
  unfold spec_l1Residue.f
  have e : Int.tdiv (p - 1) 2 = (h : Int) := by
    rw [tdiv_half (by omega)]; omega
  simp only [w64 (x := p - 1) (by omega) (by omega), e, w64 (x := (h : Int)) (by omega) (by omega)]
  refine Ev.bind (spec_l1Power_ev (n := n) (e := h) (by omega) (by omega) (by omega) hp') ?_
  rw [Int.toNat_natCast]
  have hm : leg n p % p = n ^ h % p := Int.emod_eq_emod_iff_emod_sub_eq_zero.2 (Int.emod_eq_zero_of_dvd (leg_euler hp h hh n))
  rw [← hm]
  rcases leg_cases n p with h | h | h
  · rw [h, Int.zero_emod]; simp only [if_neg (show ¬ (0 : Int) = p - 1 by omega)]; exact Ev.now _
  · rw [h, Int.emod_eq_of_lt (by omega) (by omega)]; simp only [if_neg (show ¬ (1 : Int) = p - 1 by omega)]; exact Ev.now _
  · have e2 : (-1 : Int) % p = p - 1 := by
      rw [← Int.add_emod_right, Int.emod_eq_of_lt (by omega) (by omega)]; omega
    rw [h, e2]; simp only [if_true]; exact Ev.now _
theorem impl_localSquare_ev {n p : Int} (hp : Pl p) (hp' : p ≤ 5000) (hn : n ≠ 0) (hb : n.natAbs ≤ 1000000000000000) : Ev (fun k => impl_localSquare.f k n p) (lsq n p) := by
  unfold impl_localSquare.f
  rcases pl_cases hp with rfl | rfl | ⟨hq, h0, h2⟩
  · simp only [if_true]; rw [lsq_0]; exact Ev.now _
  · simp only [if_neg (show ¬ (2 : Int) = 0 by omega)]
    rw [lsq_2]
    refine Ev.bind (impl_split_ev (by omega) (by omega) hn hb) ?_
    simp only [tm (show (0 : Int) ≤ (vl n 2 : Int) by omega)]
    by_cases h : vl n 2 % 2 = 0
    · simp only [if_pos (show (vl n 2 : Int) % 2 = 0 by omega), if_pos h, if_true]
      rw [impl_rest_eq (by omega) (by omega), Option.bind_some, beq_decide]; exact Ev.now _
    · simp only [if_neg (show ¬ (vl n 2 : Int) % 2 = 0 by omega), if_neg h]; exact Ev.now _
  · simp only [if_neg h0]
    rw [lsq_p h0 h2]
    refine Ev.bind (impl_split_ev hq.1 (by omega) hn hb) ?_
    simp only [tm (show (0 : Int) ≤ (vl n p : Int) by omega)]
    by_cases h : vl n p % 2 = 0
    · simp only [if_pos (show (vl n p : Int) % 2 = 0 by omega), if_pos h, if_neg h2]
      refine Ev.bind (impl_residue_ev hq h2 hp') ?_
      rw [beq_decide]; exact Ev.now _
    · simp only [if_neg (show ¬ (vl n p : Int) % 2 = 0 by omega), if_neg h]; exact Ev.now _
theorem spec_l2Square_ev {n p : Int} (hp : Pl p) (hp' : p ≤ 5000) (hn : n ≠ 0) (hb : n.natAbs ≤ 1000000000000000) : Ev (fun k => spec_l2Square.f k n p) (lsq n p) := by
  unfold spec_l2Square.f
  rcases pl_cases hp with rfl | rfl | ⟨hq, h0, h2⟩
  · simp only [if_true]; rw [lsq_0]; exact Ev.now _
  · simp only [if_neg (show ¬ (2 : Int) = 0 by omega)]
    rw [lsq_2]
    refine Ev.bind (spec_l1Valuation_ev (by omega) (by omega) hn hb) ?_
    simp only [tm (show (0 : Int) ≤ (vl n 2 : Int) by omega), if_true]
    by_cases h : vl n 2 % 2 = 0
    · simp only [if_pos (show (vl n 2 : Int) % 2 = 0 by omega), if_pos h]
      rw [spec_l1Mod_eq (by omega) (by omega), Option.bind_some, beq_decide]; exact Ev.now _
    · simp only [if_neg (show ¬ (vl n 2 : Int) % 2 = 0 by omega), if_neg h]; exact Ev.now _
  · simp only [if_neg h0]
    rw [lsq_p h0 h2]
    refine Ev.bind (spec_l1Valuation_ev hq.1 (by omega) hn hb) ?_
    simp only [tm (show (0 : Int) ≤ (vl n p : Int) by omega), if_neg h2]
    by_cases h : vl n p % 2 = 0
    · simp only [if_pos (show (vl n p : Int) % 2 = 0 by omega), if_pos h]
      refine Ev.bind (spec_l1Residue_ev hq h2 hp') ?_
      rw [beq_decide]; exact Ev.now _
    · simp only [if_neg (show ¬ (vl n p : Int) % 2 = 0 by omega), if_neg h]; exact Ev.now _
theorem impl_LocalSquare_ev (n p : Int) : Ev (fun k => impl_LocalSquare.f k n p) (lsqOf n p) := by
  unfold impl_LocalSquare.f lsqOf
  simp only [impl_isNumber_eq, Option.bind_some]
  by_cases h0 : n = 0
  · simp only [if_pos h0]; simp [h0]; exact Ev.now _
  · simp only [if_neg h0]
    by_cases h : numB n = true
    · simp only [if_pos h]
      refine Ev.bind (impl_PlaceValid_ev p) ?_
      by_cases hpl : plB p = true
      · simp only [if_pos hpl]
        have hn := numB_true.1 h
        have hp := plB_pl hpl
        refine Ev.bind (impl_localSquare_ev hp.1 hp.2.2 h0 (by omega)) ?_
        simp [h0, h, hpl]; exact Ev.now _
      · simp only [if_neg hpl]; simp [hpl]; exact Ev.now _
    · simp only [if_neg h]; simp [h]; exact Ev.now _
theorem rd_pre (p : List Int) (a : Int) (l : List Int) : rd (p ++ a :: l) (p.length : Int) = a := by
  unfold rd
  rw [Int.toNat_natCast, List.getD_eq_getElem?_getD, List.getElem?_append_right (Nat.le_refl _)]
  simp
theorem set_pre (p : List Int) (a : Int) (l : List Int) (c : Int) : (p ++ a :: l).set ((p.length : Int)).toNat c = p ++ c :: l := by
  rw [Int.toNat_natCast, List.set_append_right _ _ (Nat.le_refl _)]
  simp
theorem laws_sameInts_l0 {r : Bool} : ∀ (l1 l2 p1 p2 : List Int), p1.length = p2.length → l1.length = l2.length → (p1 ++ l1).length ≤ 1000000 → (decide (l1 = l2)) = r → Ev (fun k => laws_sameInts.l0 k (p1 ++ l1) (p2 ++ l2) p1.length) r := by
  intro l1
  induction l1 with
  | nil =>
    intro l2 p1 p2 hp hl hb hr
    have : l2 = [] := List.length_eq_zero_iff.1 hl.symm
    subst this
    refine Ev.step (f := fun _ => some true) (fun k => ?_) ?_
    · rw [laws_sameInts.l0, if_neg (by simp)]
    · rw [← hr]; simp; exact Ev.now _
  | cons a l1 ih =>
    intro l2 p1 p2 hp hl hb hr
    match l2 with
    | [] => simp at hl
    | b :: l2 =>
      simp only [List.length_append, List.length_cons] at hb hl
      by_cases e : a = b
      · have := ih l2 (p1 ++ [a]) (p2 ++ [b]) (by simp [hp]) (by omega) (by simp; omega) (by rw [← hr]; simp [e])
        simp only [List.append_assoc, List.singleton_append, List.length_append, List.length_singleton] at this
        refine Ev.step (fun k => ?_) this
        rw [laws_sameInts.l0, if_pos (by simp; omega), if_pos (by omega), if_pos (by rw [hp]; simp; omega), rd_pre, hp, rd_pre, if_pos e, w64 (by omega) (by omega)]
        rfl
      · refine Ev.step (f := fun _ => some false) (fun k => ?_) ?_
        · rw [laws_sameInts.l0, if_pos (by simp; omega), if_pos (by omega), if_pos (by rw [hp]; simp; omega), rd_pre, hp, rd_pre, if_neg e]
        · rw [← hr]; simp [e]; exact Ev.now _
theorem laws_sameInts_ev {l1 l2 : List Int} (hb : l1.length ≤ 1000000) : Ev (fun k => laws_sameInts.f k l1 l2) (decide (l1 = l2)) := by
  unfold laws_sameInts.f
  by_cases h : (l1.length : Int) = (l2.length : Int)
  · simp only [if_pos h]
    exact laws_sameInts_l0 l1 l2 [] [] rfl (by omega) (by simpa using hb) rfl
  · simp only [if_neg h]
    rw [decide_eq_false (fun e => h (by rw [e]))]; exact Ev.now _
theorem laws_hasInt_l0 {x : Int} {r : Bool} : ∀ (l p : List Int), (p ++ l).length ≤ 1000000 → decide (x ∈ l) = r → Ev (fun k => laws_hasInt.l0 k (p ++ l) x p.length) r := by
  intro l
  induction l with
  | nil =>
    intro p hb hr
    refine Ev.step (f := fun _ => some false) (fun k => ?_) ?_
    · rw [laws_hasInt.l0, if_neg (by simp)]
    · rw [← hr]; simp; exact Ev.now _
  | cons a l ih =>
    intro p hb hr
    simp only [List.length_append, List.length_cons] at hb
    by_cases e : a = x
    · refine Ev.step (f := fun _ => some true) (fun k => ?_) ?_
      · rw [laws_hasInt.l0, if_pos (by simp; omega), if_pos (by omega), rd_pre, if_pos e]
      · rw [← hr]; simp [e]; exact Ev.now _
    · have := ih (p ++ [a]) (by simp; omega) (by rw [← hr]; simp [Ne.symm e])
      simp only [List.append_assoc, List.singleton_append, List.length_append, List.length_singleton] at this
      refine Ev.step (fun k => ?_) this
      rw [laws_hasInt.l0, if_pos (by simp; omega), if_pos (by omega), rd_pre, if_neg e, w64 (by omega) (by omega)]
      rfl
theorem laws_hasInt_ev {l : List Int} {x : Int} (hb : l.length ≤ 1000000) : Ev (fun k => laws_hasInt.f k l x) (decide (x ∈ l)) :=
  laws_hasInt_l0 l [] (by simpa using hb) rfl
theorem spec_l1Primes_l1 {p : Int} (hp : 2 ≤ p) (hp' : p ≤ 1000002) (acc : List Int) {r : List Int} : ∀ (f : Nat) (n : Int), n ≠ 0 → n.natAbs ≤ f → n.natAbs ≤ 1000000 → Ev (fun k => spec_l1Primes.l0 k (spl f n p).2 acc (p + 1)) r → Ev (fun k => spec_l1Primes.l1 k n acc p) r := by
  intro f
  induction f with
  | zero => intro n hn hf; omega
  | succ f ih =>
    intro n hn hf hb hr
    rw [spl] at hr
    by_cases h : n % p = 0
    · obtain ⟨h1, h2, h3⟩ := div_smaller hp hn h
      rw [if_pos h] at hr
      refine Ev.step (fun k => ?_) (ih (n / p) h1 (by omega) (by omega) hr)
      rw [spec_l1Primes.l1, if_neg (by omega), if_pos (tm_zero.2 h), td_dvd h, w64 (by omega) (by omega)]
    · rw [if_neg h] at hr
      refine Ev.step (fun k => ?_) hr
      rw [spec_l1Primes.l1, if_neg (by omega), if_neg (fun e => h (tm_zero.1 e)), w64 (by omega) (by omega)]
theorem spec_l1Primes_l0 : ∀ (f : Nat) (n : Int) (acc : List Int) (p : Int), 1 ≤ n → n ≤ 1000000 → 2 ≤ p → p ≤ 1000002 → n < f + p → (acc.length : Int) ≤ p → Ev (fun k => spec_l1Primes.l0 k n acc p) (pfl f n acc p) := by
  intro f
  have last : ∀ (n : Int) (acc : List Int) (p : Int), 1 ≤ n → n ≤ 1000000 → 2 ≤ p → p ≤ 1000002 → n < p * p → (acc.length : Int) ≤ p → Ev (fun k => spec_l1Primes.l0 k n acc p) (if n > 1 then acc ++ [n] else acc) := by
    intro n acc p hn hn' hp hp' hlt hl
    have hb := mul_bd (show 0 ≤ p by omega) hp' (show 0 ≤ p by omega) hp'
    refine Ev.step (f := fun _ => some (if n > 1 then acc ++ [n] else acc)) (fun k => ?_) (Ev.now _)
    rw [spec_l1Primes.l0, w64 (by omega) (by omega), if_neg (by omega)]
    by_cases h1 : n > 1
    · rw [if_pos h1, if_pos h1, if_pos (by omega)]
    · rw [if_neg h1, if_neg h1]
  induction f with
  | zero =>
    intro n acc p hn hn' hp hp' hf hl
    rw [pfl]
    exact last n acc p hn hn' hp hp' (sq_gt hp (by omega)) hl
  | succ f ih =>
    intro n acc p hn hn' hp hp' hf hl
    have hb := mul_bd (show 0 ≤ p by omega) hp' (show 0 ≤ p by omega) hp'
    rw [pfl]
    by_cases hle : p * p ≤ n
    · rw [if_pos hle]
      have hpn : p ≤ n := by have := sq_gt hp (Int.le_refl p); omega
      by_cases hm : n % p = 0
      · rw [if_pos hm]
        have hu := un_pos hp hn
        refine Ev.step (f := fun k => spec_l1Primes.j1 k n (acc ++ [p]) p) (fun k => ?_) (Ev.step (f := fun k => spec_l1Primes.l1 k n (acc ++ [p]) p) (fun k => by rw [spec_l1Primes.j1]) <| spec_l1Primes_l1 hp hp' (acc ++ [p]) n.natAbs n (by omega) (Nat.le_refl _) (by omega) (ih (un n p) (acc ++ [p]) (p + 1) hu.1 (by omega) (by omega) (by omega) (by omega) (by simp; omega)))
        rw [spec_l1Primes.l0, w64 (x := p * p) (by omega) (by omega), if_pos hle, if_neg (by omega), if_pos (tm_zero.2 hm), if_pos (by omega)]
      · rw [if_neg hm]
        refine Ev.step (f := fun k => spec_l1Primes.j1 k n acc p) (fun k => ?_) (Ev.step (f := fun k => spec_l1Primes.l1 k n acc p) (fun k => by rw [spec_l1Primes.j1]) <| Ev.step (fun k => ?_) (ih n acc (p + 1) hn hn' (by omega) (by omega) (by omega) (by omega)))
        · rw [spec_l1Primes.l0, w64 (x := p * p) (by omega) (by omega), if_pos hle, if_neg (by omega), if_neg (fun e => hm (tm_zero.1 e))]
        · rw [spec_l1Primes.l1, if_neg (by omega), if_neg (fun e => hm (tm_zero.1 e)), w64 (x := p + 1) (by omega) (by omega)]
    · rw [if_neg hle]
      exact last n acc p hn hn' hp hp' (by omega) hl
theorem spec_l1Primes_ev {n : Int} (hn : n ≠ 0) (hb : n.natAbs ≤ 1000000) : Ev (fun k => spec_l1Primes.f k n) (primesL n) := by
  unfold spec_l1Primes.f
  simp only [spec_l1Size_eq (n := n) (by omega) (by omega), Option.bind_some]
  exact spec_l1Primes_l0 n.natAbs n.natAbs [] 2 (by omega) (by omega) (by omega) (by omega) (by omega) (by simp)
theorem impl_PrimesOf_ev (n : Int) : Ev (fun k => impl_PrimesOf.f k n) (primesOfL n) := by
  unfold impl_PrimesOf.f primesOfL
  simp only [impl_isNumber_eq, Option.bind_some]
  by_cases h0 : n = 0
  · simp only [if_pos h0]; rw [if_neg (fun h => h.1 h0)]; exact Ev.now _
  · simp only [if_neg h0]
    by_cases h : numB n = true
    · simp only [if_pos h]; rw [if_pos ⟨h0, h⟩]
      have hn := numB_true.1 h
      exact Ev.bind (impl_primesOf_ev h0 (by omega)) (Ev.now _)
    · simp only [if_neg h]; rw [if_neg (fun h' => h h'.2)]; exact Ev.now _
theorem spec_l6Open_eq {l : List Int} (h : ∀ x ∈ l, (Lit.int .u8 x).wf = true) : ∃ b, GB b ∧ spec_l6Open.f l = some (b, 0) := by
  unfold spec_l6Open.f
  by_cases h1 : (l.length : Int) > 2000
  · rw [if_pos h1, if_pos (by omega)]
    exact ⟨l.take 2000, ⟨by simp; omega, fun x hx => u8_bd (h x (List.mem_of_mem_take hx))⟩, rfl⟩
  · rw [if_neg h1]
    exact ⟨l, ⟨by omega, fun x hx => u8_bd (h x hx)⟩, rfl⟩
theorem rd_bd {b : List Int} (hb : GB b) (i : Int) : 0 ≤ rd b i ∧ rd b i ≤ 255 := by
  unfold rd
  rw [List.getD_eq_getElem?_getD]
  cases h : b[i.toNat]? with
  | none => simp
  | some x => exact hb.2 x (List.mem_of_getElem? h)
theorem pick_ev {b : List Int} (hb : GB b) {p n : Int} (hp : 0 ≤ p) (hp' : p ≤ 1000) (hn : 1 ≤ n) (hn' : n ≤ 1000) : ∃ v, 0 ≤ v ∧ v < n ∧ Ev (fun k => spec_l6Rd_pick.f k b p n) (v, p + 1) := by
  have hl := hb.1
  have e1 : wrap64 (p + 1) = p + 1 := w64 (by omega) (by omega)
  have e2 : wrap64 (p + 1 - 1) = p := by rw [w64 (by omega) (by omega)]; omega
  unfold spec_l6Rd_pick.f
  simp only [if_neg (show ¬ n < 1 by omega), e1]
  by_cases h0 : b.length = 0
  · refine ⟨0, by omega, by omega, Ev.step (f := fun _ => some (0, p + 1)) (fun k => ?_) (Ev.now _)⟩
    rw [spec_l6Rd_pick.j0, if_pos (by simp [h0])]
  · have hL : ((b.length : Int) == 0) = false := by rw [beq_eq_false_iff_ne]; omega
    rw [hL]
    by_cases h1 : p < (b.length : Int)
    · have hr := rd_bd hb p
      have m := emod_bd (rd b p) (show 0 < n by omega)
      refine ⟨rd b p % n, m.1, m.2, Ev.step (f := fun _ => some (rd b p % n, p + 1)) (fun k => ?_) (Ev.now _)⟩
      rw [spec_l6Rd_pick.j0, if_neg (by simp), e2, if_pos h1, if_pos hp, if_neg (by omega), w64 (x := rd b p) (by omega) (by omega), tm hr.1]
    · have m1 := emod_bd p (show (0 : Int) < b.length by omega)
      have t1 : Int.tmod p (b.length : Int) = p % (b.length : Int) := tm hp
      have e7 : wrap64 (wrap64 (p * 7) + 3) = p * 7 + 3 := by rw [w64 (x := p * 7) (by omega) (by omega), w64 (by omega) (by omega)]
      have t2 : Int.tmod (p * 7 + 3) (b.length : Int) = (p * 7 + 3) % (b.length : Int) := tm (by omega)
      have m2 := emod_bd (p * 7 + 3) (show (0 : Int) < b.length by omega)
      have r1 := rd_bd hb (p % (b.length : Int))
      have r2 := rd_bd hb ((p * 7 + 3) % (b.length : Int))
      have d1 : Int.tdiv p (b.length : Int) = p / (b.length : Int) := Int.tdiv_eq_ediv_of_nonneg hp
      have d2 : 0 ≤ p / (b.length : Int) ∧ p / (b.length : Int) ≤ p := ⟨Int.ediv_nonneg hp (by omega), Int.ediv_le_self _ hp⟩
      have key : ∃ v, 0 ≤ v ∧ v < n ∧ ∀ k, spec_l6Rd_pick.j0 (k + 1) n false b (p + 1) = some (v, p + 1) := by
        generalize hq1 : rd b (p % (b.length : Int)) = q1 at r1
        generalize hq2 : rd b ((p * 7 + 3) % (b.length : Int)) = q2 at r2
        generalize hq3 : p / (b.length : Int) = q3 at d1 d2
        have hx0 : 0 ≤ Go.bits .xor .i64 (q1 * 131 + q2 * 1117 + p * 29 + q3 * 53) ((q1 * 131 + q2 * 1117 + p * 29 + q3 * 53) / 64) := xor_nonneg (by omega) (by omega) (by omega) (by omega)
        refine ⟨_, (emod_bd (Go.bits .xor .i64 (q1 * 131 + q2 * 1117 + p * 29 + q3 * 53) ((q1 * 131 + q2 * 1117 + p * 29 + q3 * 53) / 64)) (show 0 < n by omega)).1, (emod_bd _ (show 0 < n by omega)).2, fun k => ?_⟩
        rw [spec_l6Rd_pick.j0, if_neg (by simp), e2, if_neg h1, if_neg (by omega), t1, if_pos m1.1, if_pos m1.2, e7, t2, if_pos m2.1, if_pos m2.2, if_neg (by omega), hq1, hq2, d1,
          w64 (x := q1) (by omega) (by omega), w64 (x := q2) (by omega) (by omega), w64 (x := q1 * 131) (by omega) (by omega), w64 (x := q2 * 1117) (by omega) (by omega), w64 (x := q1 * 131 + q2 * 1117) (by omega) (by omega),
          w64 (x := p * 29) (by omega) (by omega), w64 (x := q1 * 131 + q2 * 1117 + p * 29) (by omega) (by omega), w64 (x := q3) (by omega) (by omega), w64 (x := q3 * 53) (by omega) (by omega),
          w64 (x := q1 * 131 + q2 * 1117 + p * 29 + q3 * 53) (by omega) (by omega),
          Int.tdiv_eq_ediv_of_nonneg (a := q1 * 131 + q2 * 1117 + p * 29 + q3 * 53) (by omega), w64 (x := (q1 * 131 + q2 * 1117 + p * 29 + q3 * 53) / 64) (by omega) (by omega), tm hx0]
      obtain ⟨v, h2, h3, h4⟩ := key
      exact ⟨v, h2, h3, Ev.step (f := fun _ => some (v, p + 1)) h4 (Ev.now _)⟩
theorem l91Number_ev {b : List Int} (hb : GB b) {p : Int} (hp : 0 ≤ p) (hp' : p ≤ 500) : ∃ n q, DN n ∧ p ≤ q ∧ q ≤ p + 4 ∧ Ev (fun k => spec_l91Number.f k b p) (n, q) := by
  unfold spec_l91Number.f
  obtain ⟨v, a1, a2, a3⟩ := pick_ev hb (p := p) (n := 30) hp (by omega) (by omega) (by omega)
  by_cases h : v = 0
  · obtain ⟨u, b1, b2, b3⟩ := pick_ev hb (p := p + 1) (n := 6) (by omega) (by omega) (by omega) (by omega)
    have key : DN (rd [0, 5000, 5001, (-5001), 4096, 3969] u) := by
      have : u = 0 ∨ u = 1 ∨ u = 2 ∨ u = 3 ∨ u = 4 ∨ u = 5 := by omega
      rcases this with rfl | rfl | rfl | rfl | rfl | rfl <;> simp [DN, rd]
    refine ⟨_, p + 2, key, by omega, by omega, Ev.bind a3 ?_⟩
    simp only [if_pos h, Option.bind_some]
    refine Ev.bind b3 ?_
    simp only [if_pos b1]
    rw [if_pos (by simp; omega), show p + 1 + 1 = p + 2 by omega]
    exact Ev.now _
  · obtain ⟨u, b1, b2, b3⟩ := pick_ev hb (p := p + 1) (n := 40) (by omega) (by omega) (by omega) (by omega)
    obtain ⟨x, c1, c2, c3⟩ := pick_ev hb (p := p + 1 + 1) (n := 3) (by omega) (by omega) (by omega) (by omega)
    obtain ⟨s, d1, d2, d3⟩ := pick_ev hb (p := p + 1 + 1 + 1) (n := 2) (by omega) (by omega) (by omega) (by omega)
    have hux : 0 ≤ u * (1 + x) ∧ u * (1 + x) ≤ 117 := by
      have : x = 0 ∨ x = 1 ∨ x = 2 := by omega
      rcases this with rfl | rfl | rfl <;> omega
    by_cases hs : s = 0
    · refine ⟨-(1 + u * (1 + x)), p + 4, ?_, by omega, by omega, Ev.bind a3 ?_⟩
      · unfold DN; omega
      simp only [if_neg h]
      refine Ev.bind b3 (Ev.bind c3 (Ev.bind d3 ?_))
      simp only [if_pos hs]
      rw [w64 (x := 1 + x) (by omega) (by omega), w64 (x := u * (1 + x)) (by omega) (by omega), w64 (x := 1 + u * (1 + x)) (by omega) (by omega), w64 (x := -(1 + u * (1 + x))) (by omega) (by omega), show p + 1 + 1 + 1 + 1 = p + 4 by omega]
      exact Ev.now _
    · refine ⟨1 + u * (1 + x), p + 4, ?_, by omega, by omega, Ev.bind a3 ?_⟩
      · unfold DN; omega
      simp only [if_neg h]
      refine Ev.bind b3 (Ev.bind c3 (Ev.bind d3 ?_))
      simp only [if_neg hs]
      rw [w64 (x := 1 + x) (by omega) (by omega), w64 (x := u * (1 + x)) (by omega) (by omega), w64 (x := 1 + u * (1 + x)) (by omega) (by omega), show p + 1 + 1 + 1 + 1 = p + 4 by omega]
      exact Ev.now _
theorem l91Prime_ev {b : List Int} (hb : GB b) {p : Int} (hp : 0 ≤ p) (hp' : p ≤ 500) : ∃ n q, DP n ∧ p ≤ q ∧ q ≤ p + 4 ∧ Ev (fun k => spec_l91Prime.f k b p) (n, q) := by
  unfold spec_l91Prime.f
  obtain ⟨v, a1, a2, a3⟩ := pick_ev hb (p := p) (n := 24) hp (by omega) (by omega) (by omega)
  by_cases h : v = 0
  · obtain ⟨u, b1, b2, b3⟩ := pick_ev hb (p := p + 1) (n := 6) (by omega) (by omega) (by omega) (by omega)
    have key : DP (rd [0, 1, 4, (-3), 97, 9] u) := by
      have : u = 0 ∨ u = 1 ∨ u = 2 ∨ u = 3 ∨ u = 4 ∨ u = 5 := by omega
      rcases this with rfl | rfl | rfl | rfl | rfl | rfl <;> simp [DP, rd]
    refine ⟨_, p + 1 + 1, key, by omega, by omega, Ev.bind a3 ?_⟩
    simp only [if_pos h, Option.bind_some]
    refine Ev.bind b3 ?_
    simp only [if_pos b1]
    rw [if_pos (by simp; omega)]
    exact Ev.now _
  · obtain ⟨u, b1, b2, b3⟩ := pick_ev hb (p := p + 1) (n := 8) (by omega) (by omega) (by omega) (by omega)
    have key : DP (rd [2, 3, 5, 7, 11, 13, 3, 2] u) := by
      have : u = 0 ∨ u = 1 ∨ u = 2 ∨ u = 3 ∨ u = 4 ∨ u = 5 ∨ u = 6 ∨ u = 7 := by omega
      rcases this with rfl | rfl | rfl | rfl | rfl | rfl | rfl | rfl <;> simp [DP, rd]
    refine ⟨_, p + 1 + 1, key, by omega, by omega, Ev.bind a3 ?_⟩
    simp only [if_neg h, Option.bind_some]
    refine Ev.bind b3 ?_
    simp only [if_pos b1]
    rw [if_pos (by simp; omega)]
    exact Ev.now _
theorem l91Place_ev {b : List Int} (hb : GB b) {p : Int} (hp : 0 ≤ p) (hp' : p ≤ 400) : ∃ n q, DP n ∧ p ≤ q ∧ q ≤ p + 5 ∧ Ev (fun k => spec_l91Place.f k b p) (n, q) := by
  unfold spec_l91Place.f
  obtain ⟨v, a1, a2, a3⟩ := pick_ev hb (p := p) (n := 5) hp (by omega) (by omega) (by omega)
  by_cases h : v = 0
  · refine ⟨0, p + 1, by simp [DP], by omega, by omega, Ev.bind a3 ?_⟩
    simp only [if_pos h]; exact Ev.now _
  · obtain ⟨n, q, b1, b2, b3, b4⟩ := l91Prime_ev hb (p := p + 1) (by omega) (by omega)
    refine ⟨n, q, b1, by omega, by omega, Ev.bind a3 ?_⟩
    simp only [if_neg h]
    exact Ev.bind b4 (Ev.now _)
theorem l91Local_ev {b : List Int} (hb : GB b) {p : Int} (hp : 0 ≤ p) (hp' : p ≤ 300) : ∃ n pl q, DL n ∧ DP pl ∧ p ≤ q ∧ q ≤ p + 12 ∧ Ev (fun k => spec_l91Local.f k b p) (n, pl, q) := by
  unfold spec_l91Local.f
  obtain ⟨n, q, n1, n2, n3, n4⟩ := l91Number_ev hb hp (by omega)
  obtain ⟨v, a1, a2, a3⟩ := pick_ev hb (p := q) (n := 3) (by omega) (by omega) (by omega) (by omega)
  by_cases h : v = 0
  · obtain ⟨x, b1, b2, b3⟩ := pick_ev hb (p := q + 1) (n := 9) (by omega) (by omega) (by omega) (by omega)
    obtain ⟨y, c1, c2, c3⟩ := pick_ev hb (p := q + 1 + 1) (n := 3) (by omega) (by omega) (by omega) (by omega)
    obtain ⟨pl, r, d1, d2, d3, d4⟩ := l91Place_ev hb (p := q + 1 + 1 + 1) (by omega) (by omega)
    have hx := mul_bd (show 0 ≤ 1 + x by omega) (show 1 + x ≤ 9 by omega) (show 0 ≤ 1 + x by omega) (show 1 + x ≤ 9 by omega)
    have hx1 : 1 ≤ (1 + x) * (1 + x) := by have := Int.mul_le_mul (show (1 : Int) ≤ 1 + x by omega) (show (1 : Int) ≤ 1 + x by omega) (by omega) (by omega); omega
    generalize hxx : (1 + x) * (1 + x) = s at hx hx1
    have hs : 1 ≤ s * (1 + y * 8) ∧ s * (1 + y * 8) ≤ 1377 := by
      have : y = 0 ∨ y = 1 ∨ y = 2 := by omega
      rcases this with rfl | rfl | rfl <;> omega
    refine ⟨s * (1 + y * 8), pl, r, Or.inr hs, d1, by omega, by omega, Ev.bind n4 (Ev.bind a3 ?_)⟩
    simp only [if_pos h]
    refine Ev.bind b3 (Ev.bind c3 (Ev.bind d4 ?_))
    rw [w64 (x := 1 + x) (by omega) (by omega), hxx, w64 (x := s) (by omega) (by omega), w64 (x := y * 8) (by omega) (by omega), w64 (x := 1 + y * 8) (by omega) (by omega), w64 (x := s * (1 + y * 8)) (by omega) (by omega)]
    exact Ev.now _
  · obtain ⟨pl, r, d1, d2, d3, d4⟩ := l91Place_ev hb (p := q + 1) (by omega) (by omega)
    refine ⟨n, pl, r, Or.inl n1, d1, by omega, by omega, Ev.bind n4 (Ev.bind a3 ?_)⟩
    simp only [if_neg h]
    exact Ev.bind d4 (Ev.now _)
theorem rd_here (p : List Int) (a : Int) (l : List Int) : rd (p ++ a :: l) (p.length : Int) = a := by
  unfold rd
  rw [Int.toNat_natCast, List.getD_eq_getElem?_getD, List.getElem?_append_right (Nat.le_refl _)]
  simp
theorem slices_Index_l0 {L : List Int} {x : Int} (hL : L.length ≤ 1000000) : ∀ (l pre : List Int), pre ++ l = L → ∃ r, Ev (fun k => slices_Index_int_int.l0 k L x (L.length : Int) pre.length) r ∧ (r ≥ 0 ↔ x ∈ l) := by
  intro l
  induction l with
  | nil =>
    intro pre e
    have hl : L.length = pre.length := by rw [← e]; simp
    refine ⟨-1, Ev.step (f := fun _ => some (-1)) (fun k => by rw [slices_Index_int_int.l0, if_neg (by omega)]) (Ev.now _), ?_⟩
    simp
  | cons a l ih =>
    intro pre e
    have hl : L.length = pre.length + (l.length + 1) := by rw [← e]; simp
    have hrd : rd L (pre.length : Int) = a := by rw [← e]; exact rd_here ..
    by_cases h : x = a
    · refine ⟨pre.length, Ev.step (f := fun _ => some (pre.length : Int)) (fun k => by rw [slices_Index_int_int.l0, if_pos (by omega), if_pos (by omega), if_pos (by omega), hrd, if_pos h]) (Ev.now _), ?_⟩
      constructor
      · intro _; rw [h]; simp
      · intro _; omega
    · obtain ⟨r, hr, hiff⟩ := ih (pre ++ [a]) (by rw [← e]; simp)
      rw [List.length_append] at hr
      refine ⟨r, Ev.step (fun k => ?_) hr, ?_⟩
      · rw [slices_Index_int_int.l0, if_pos (by omega), if_pos (by omega), if_pos (by omega), hrd, if_neg h, w64 (x := (pre.length : Int) + 1) (by omega) (by omega)]
        rfl
      · rw [hiff, List.mem_cons]
        constructor
        · exact Or.inr
        · rintro (h' | h')
          · exact absurd h' h
          · exact h'
theorem slices_Contains_ev {L : List Int} {x : Int} (hL : L.length ≤ 1000000) : Ev (fun k => slices_Contains_int_int.f k L x) (decide (x ∈ L)) := by
  obtain ⟨r, hr, hiff⟩ := slices_Index_l0 (x := x) hL L [] rfl
  unfold slices_Contains_int_int.f slices_Index_int_int.f
  refine Ev.bind hr ?_
  have : decide (r ≥ 0) = decide (x ∈ L) := by rw [decide_eq_decide]; exact hiff
  rw [this]; exact Ev.now _
theorem cmp_Less_eq (a b : Int) : cmp_Less_int.f a b = some (decide (a < b)) := by
  unfold cmp_Less_int.f cmp_isNaN_int.f
  rw [bne_self_eq_false]
  simp only [Option.bind_some, Bool.false_eq_true, if_false]
/-- A list that ascends stays as it is. -/
theorem insertionSort_ev {L : List Int} (hs : L.Pairwise (· < ·)) (hL : L.length ≤ 1000000) : Ev (fun k => slices_insertionSortOrdered_int.f k L 0 (L.length : Int)) L := by
  have key : ∀ (d : Nat) (i : Nat), 1 ≤ i → (i + d = L.length ∨ (d = 0 ∧ L.length ≤ i)) → Ev (fun k => slices_insertionSortOrdered_int.l0 k L 0 (L.length : Int) i) L := by
    intro d
    induction d with
    | zero =>
      intro i h1 h
      refine Ev.step (f := fun _ => some L) (fun k => by rw [slices_insertionSortOrdered_int.l0, if_neg (by omega)]) (Ev.now _)
    | succ d ih =>
      intro i h1 h
      have hlt : i < L.length := by omega
      have hstep := sorted_step hs h1 hlt
      have hih := ih (i + 1) (by omega) (by omega)
      refine Ev.step (f := fun k => slices_insertionSortOrdered_int.l1 k L 0 (L.length : Int) i i) (fun k => by rw [slices_insertionSortOrdered_int.l0, if_pos (by omega)]) (Ev.step (fun k => ?_) hih)
      have e1 : rd L (i : Int) = L.getD i 0 := by unfold rd; rw [Int.toNat_natCast]
      have e2 : rd L ((i : Int) - 1) = L.getD (i - 1) 0 := by unfold rd; rw [show ((i : Int) - 1).toNat = i - 1 by omega]
      rw [slices_insertionSortOrdered_int.l1, if_pos (by omega), if_pos (by omega), if_pos (by omega), w64 (x := (i : Int) - 1) (by omega) (by omega), if_pos (by omega), if_pos (by omega), cmp_Less_eq, e1, e2]
      simp only [Option.bind_some]
      rw [decide_eq_false (by omega), if_neg (by simp), w64 (x := (i : Int) + 1) (by omega) (by omega)]
      rfl
  unfold slices_insertionSortOrdered_int.f
  rw [w64 (x := (0 : Int) + 1) (by omega) (by omega)]
  by_cases h : 1 ≤ L.length
  · exact key (L.length - 1) 1 (by omega) (by omega)
  · exact key 0 1 (by omega) (by omega)
theorem bits_Len_ev {n : Int} (h0 : 0 ≤ n) (h : n < 256) : ∃ r, Ev (fun k => bits_Len.f k n) r := by
  unfold bits_Len.f bits_Len64.f
  simp only [if_neg (show ¬ n ≥ 4294967296 by omega)]
  refine ⟨_, Ev.bind (Ev.step (fun k => by rw [bits_Len64.j0, if_neg (by omega), if_neg (by omega), if_pos (by omega), if_pos (by omega)]) (Ev.now _)) (Ev.now _)⟩
theorem slices_Sort_ev {L : List Int} (hs : L.Pairwise (· < ·)) (hL : L.length ≤ 12) : Ev (fun k => slices_Sort_int_int.f k L) L := by
  have hw : IntKind.u64.wrap (L.length : Int) = (L.length : Int) := by
    rw [IntKind.wrap_u64]; omega
  obtain ⟨r, hr⟩ := bits_Len_ev (n := (L.length : Int)) (by omega) (by omega)
  have hp : Ev (fun k => slices_pdqsortOrdered_int.f k L 0 (L.length : Int) r) L := by
    refine Ev.step (f := fun k => slices_pdqsortOrdered_int.l0 k L 0 (L.length : Int) r true) (fun k => by rw [slices_pdqsortOrdered_int.f]) (Ev.step (f := fun k => (slices_insertionSortOrdered_int.f k L 0 (L.length : Int)).bind fun t => some t) (fun k => ?_) (Ev.bind (insertionSort_ev hs (by omega)) (Ev.now _)))
    rw [slices_pdqsortOrdered_int.l0, w64 (x := (L.length : Int) - 0) (by omega) (by omega), if_pos (by omega)]
  unfold slices_Sort_int_int.f
  rw [hw]
  exact Ev.bind hr (Ev.bind hp (Ev.now _))
theorem impl_placesOf_l1 {n : Int} (hn : n ≠ 0) (hb : n.natAbs ≤ 5000) {r : List Int} (h : Ev (fun k => impl_placesOf.l0 k (placesN n) [n] 1 1) r) : ∀ (l pre : List Int), pre ++ l = primesL n → Ev (fun k => impl_placesOf.l1 k (0 :: 2 :: oddL pre) [n] 1 0 (primesL n) ((primesL n).length : Int) pre.length) r := by
  have hlen := primesL_length hn
  intro l
  induction l with
  | nil =>
    intro pre e
    have hl : (primesL n).length = pre.length := by rw [← e]; simp
    have hpre : pre = primesL n := by rw [← e]; simp
    refine Ev.step (fun k => ?_) h
    rw [impl_placesOf.l1, if_neg (by omega), w64 (x := (0 : Int) + 1) (by omega) (by omega), hpre]
    rfl
  | cons p l ih =>
    intro pre e
    have hl : (primesL n).length = pre.length + (l.length + 1) := by rw [← e]; simp
    have hrd : rd (primesL n) (pre.length : Int) = p := by rw [← e]; exact rd_here ..
    have hmem : p ∈ primesL n := by rw [← e]; simp
    have hp2 := ((mem_primesL hn).1 hmem).1.1
    have hs := primesL_sorted hn
    rw [← e, List.pairwise_append] at hs
    have hodd : (oddL pre).length ≤ pre.length := by unfold oddL; exact List.length_filter_le ..
    have hih := ih (pre ++ [p]) (by rw [← e]; simp)
    rw [List.length_append, oddL_app, oddL_one] at hih
    refine Ev.step (fun k => by rw [impl_placesOf.l1, if_pos (by omega), if_pos (by omega), if_pos (by omega), hrd, w64 (x := (pre.length : Int) + 1) (by omega) (by omega)]) ?_
    refine Ev.bind (slices_Contains_ev (by simp only [List.length_cons]; omega)) ?_
    by_cases h2 : p > 2
    · have hno : ¬ p ∈ 0 :: 2 :: oddL pre := by
        rw [List.mem_cons, List.mem_cons, mem_oddL]
        rintro (h | h | h)
        · omega
        · omega
        · have := hs.2.2 p h.1 p (by simp); omega
      rw [decide_eq_false hno]
      simp only [Bool.false_eq_true, if_false, if_pos (show (0 :: 2 :: oddL pre).length < 17592186044416 by simp only [List.length_cons]; omega)]
      rw [if_pos h2] at hih
      exact hih
    · have hyes : p ∈ 0 :: 2 :: oddL pre := by
        have : p = 2 := by omega
        rw [this]; simp
      rw [decide_eq_true hyes]
      simp only [if_true]
      rw [if_neg h2, List.append_nil] at hih
      exact hih
theorem impl_placesOf_ev {n : Int} (hn : n ≠ 0) (hb : n.natAbs ≤ 5000) : Ev (fun k => impl_placesOf.f k [n]) (placesN n) := by
  have hlen := placesN_len hn hb
  have hend : Ev (fun k => impl_placesOf.l0 k (placesN n) [n] 1 1) (placesN n) := by
    refine Ev.step (fun k => by rw [impl_placesOf.l0, if_neg (by omega)]) ?_
    exact Ev.bind (slices_Sort_ev (placesN_sorted hn) (by omega)) (Ev.now _)
  unfold impl_placesOf.f
  refine Ev.step (f := fun k => (impl_primesOf.f k n).bind fun t => impl_placesOf.l1 k [0, 2] [n] 1 0 t (t.length : Int) 0) (fun k => ?_) (Ev.bind (impl_primesOf_ev hn (by omega)) (impl_placesOf_l1 hn hb hend (primesL n) [] rfl))
  rw [impl_placesOf.l0]
  rfl
theorem impl_LocalPlaces_l0 {n : Int} (hn : n ≠ 0) (hb : n.natAbs ≤ 5000) : ∀ (l pre : List Int), pre ++ l = placesN n → Ev (fun k => impl_LocalPlaces.l0 k n (pre.filter fun p => !lsq n p) (placesN n) ((placesN n).length : Int) pre.length) (lplaces n) := by
  have hlen := placesN_len hn hb
  intro l
  induction l with
  | nil =>
    intro pre e
    have hl : (placesN n).length = pre.length := by rw [← e]; simp
    have hpre : pre = placesN n := by rw [← e]; simp
    refine Ev.step (f := fun _ => some (lplaces n)) (fun k => ?_) (Ev.now _)
    rw [impl_LocalPlaces.l0, if_neg (by omega), hpre]; rfl
  | cons p l ih =>
    intro pre e
    have hl : (placesN n).length = pre.length + (l.length + 1) := by rw [← e]; simp
    have hrd : rd (placesN n) (pre.length : Int) = p := by rw [← e]; exact rd_here ..
    have hmem : p ∈ placesN n := by rw [← e]; simp
    have hpl := placesN_pl hn hb hmem
    have hfl : (pre.filter fun p => !lsq n p).length ≤ pre.length := List.length_filter_le ..
    have hih := ih (pre ++ [p]) (by rw [← e]; simp)
    rw [List.length_append, List.filter_append] at hih
    refine Ev.step (fun k => by rw [impl_LocalPlaces.l0, if_pos (by omega), if_pos (by omega), if_pos (by omega), hrd, w64 (x := (pre.length : Int) + 1) (by omega) (by omega)]) ?_
    refine Ev.bind (impl_localSquare_ev hpl.1 hpl.2 hn (by omega)) ?_
    by_cases h : lsq n p = true
    · simp only [if_pos h]
      rw [List.filter_cons_of_neg (by simp [h]), List.filter_nil, List.append_nil] at hih
      exact hih
    · simp only [if_neg h, if_pos (show (pre.filter fun p => !lsq n p).length < 17592186044416 by omega)]
      rw [List.filter_cons_of_pos (by simp [h]), List.filter_nil] at hih
      exact hih
theorem impl_LocalPlaces_ev (n : Int) : Ev (fun k => impl_LocalPlaces.f k n) (lplacesOf n) := by
  unfold impl_LocalPlaces.f lplacesOf
  simp only [impl_isNumber_eq, Option.bind_some]
  have no : Ev (fun k => impl_LocalPlaces.j0 k n true) [] :=
    Ev.step (f := fun _ => some []) (fun k => by rw [impl_LocalPlaces.j0, if_pos rfl]) (Ev.now _)
  by_cases h0 : n = 0
  · simp only [if_pos h0]; rw [if_neg (fun g => g.1 h0)]; exact no
  · simp only [if_neg h0]
    by_cases hb : numB n = true
    · have hn := numB_true.1 hb
      rw [if_pos ⟨h0, hb⟩, hb]
      refine Ev.step (fun k => by rw [impl_LocalPlaces.j0, if_neg (by simp)]) ?_
      exact Ev.bind (impl_placesOf_ev h0 (by omega)) (impl_LocalPlaces_l0 h0 (by omega) (placesN n) [] rfl)
    · rw [if_neg (fun g => hb g.2)]
      rw [Bool.not_eq_true] at hb
      rw [hb]; exact no
theorem rd_there (p : List Int) (a : Int) (l : List Int) : rd (p ++ a :: l) (p.length : Int) = a := by
  unfold rd
  rw [Int.toNat_natCast, List.getD_eq_getElem?_getD, List.getElem?_append_right (Nat.le_refl _)]
  simp
theorem spec_l2Places_l0 {n : Int} (hn : n ≠ 0) (hb : n.natAbs ≤ 5000) : ∀ (l pre : List Int), pre ++ l = primesL n → Ev (fun k => spec_l2Places.l0 k (0 :: 2 :: oddL pre) (primesL n) pre.length) (placesN n) := by
  have hlen := primesL_length hn
  intro l
  induction l with
  | nil =>
    intro pre e
    have hl : (primesL n).length = pre.length := by rw [← e]; simp
    have hpre : pre = primesL n := by rw [← e]; simp
    refine Ev.step (f := fun _ => some (placesN n)) (fun k => ?_) (Ev.now _)
    rw [spec_l2Places.l0, if_neg (by omega), hpre]; rfl
  | cons p l ih =>
    intro pre e
    have hl : (primesL n).length = pre.length + (l.length + 1) := by rw [← e]; simp
    have hrd : rd (primesL n) (pre.length : Int) = p := by rw [← e]; exact rd_there ..
    have hodd : (oddL pre).length ≤ pre.length := by unfold oddL; exact List.length_filter_le ..
    have hih := ih (pre ++ [p]) (by rw [← e]; simp)
    rw [List.length_append, oddL_app, oddL_one] at hih
    by_cases h2 : p > 2
    · rw [if_pos h2] at hih
      refine Ev.step (fun k => ?_) hih
      rw [spec_l2Places.l0, if_pos (by omega), if_pos (by omega), hrd, if_pos h2, if_pos (by simp only [List.length_cons]; omega), w64 (x := (pre.length : Int) + 1) (by omega) (by omega)]
      rfl
    · rw [if_neg h2, List.append_nil] at hih
      refine Ev.step (fun k => ?_) hih
      rw [spec_l2Places.l0, if_pos (by omega), if_pos (by omega), hrd, if_neg h2, w64 (x := (pre.length : Int) + 1) (by omega) (by omega)]
      rfl
theorem spec_l2Places_ev {n : Int} (hn : n ≠ 0) (hb : n.natAbs ≤ 5000) : Ev (fun k => spec_l2Places.f k n) (placesN n) := by
  unfold spec_l2Places.f
  exact Ev.bind (spec_l1Primes_ev hn (by omega)) (spec_l2Places_l0 hn hb (primesL n) [] rfl)
theorem spec_LocalPlaces_l0 {n : Int} (hn : n ≠ 0) (hb : n.natAbs ≤ 5000) : ∀ (l pre : List Int), pre ++ l = placesN n → Ev (fun k => spec_LocalPlaces.l0 k n (pre.filter fun p => !lsq n p) (placesN n) pre.length) (lplaces n) := by
  have hlen := placesN_len hn hb
  intro l
  induction l with
  | nil =>
    intro pre e
    have hl : (placesN n).length = pre.length := by rw [← e]; simp
    have hpre : pre = placesN n := by rw [← e]; simp
    refine Ev.step (f := fun _ => some (lplaces n)) (fun k => ?_) (Ev.now _)
    rw [spec_LocalPlaces.l0, if_neg (by omega), hpre]; rfl
  | cons p l ih =>
    intro pre e
    have hl : (placesN n).length = pre.length + (l.length + 1) := by rw [← e]; simp
    have hrd : rd (placesN n) (pre.length : Int) = p := by rw [← e]; exact rd_there ..
    have hmem : p ∈ placesN n := by rw [← e]; simp
    have hpl := placesN_pl hn hb hmem
    have hfl : (pre.filter fun p => !lsq n p).length ≤ pre.length := List.length_filter_le ..
    have hih := ih (pre ++ [p]) (by rw [← e]; simp)
    rw [List.length_append, List.filter_append] at hih
    refine Ev.step (fun k => by rw [spec_LocalPlaces.l0, if_pos (by omega), if_pos (by omega), hrd, w64 (x := (pre.length : Int) + 1) (by omega) (by omega)]) ?_
    refine Ev.bind (spec_l2Square_ev hpl.1 hpl.2 hn (by omega)) ?_
    by_cases h : lsq n p = true
    · simp only [if_pos h]
      rw [List.filter_cons_of_neg (by simp [h]), List.filter_nil, List.append_nil] at hih
      exact hih
    · simp only [if_neg h, if_pos (show (pre.filter fun p => !lsq n p).length < 17592186044416 by omega)]
      rw [List.filter_cons_of_pos (by simp [h]), List.filter_nil] at hih
      exact hih
theorem spec_LocalPlaces_ev (n : Int) : Ev (fun k => spec_LocalPlaces.f k n) (lplacesOf n) := by
  unfold spec_LocalPlaces.f lplacesOf
  simp only [spec_l1Number_eq, Option.bind_some]
  have no : Ev (fun k => spec_LocalPlaces.j0 k n [] true) [] :=
    Ev.step (f := fun _ => some []) (fun k => by rw [spec_LocalPlaces.j0, if_pos rfl]) (Ev.now _)
  by_cases hb : numB n = true
  · simp only [if_pos hb]
    by_cases h0 : n = 0
    · rw [if_neg (fun g => g.1 h0), show (n == 0) = true by rw [beq_iff_eq]; exact h0]; exact no
    · have hn := numB_true.1 hb
      rw [if_pos ⟨h0, hb⟩, show (n == 0) = false by rw [beq_eq_false_iff_ne]; exact h0]
      refine Ev.step (fun k => by rw [spec_LocalPlaces.j0, if_neg (by simp)]) ?_
      exact Ev.bind (spec_l2Places_ev h0 (by omega)) (spec_LocalPlaces_l0 h0 (by omega) (placesN n) [] rfl)
  · simp only [if_neg hb]; rw [if_neg (fun g => hb g.2)]; exact no
theorem DrawLocalPlaces_ev {l : List Int} (h : ∀ x ∈ l, (Lit.int .u8 x).wf = true) : ∃ n, DL n ∧ Ev (fun k => spec_DrawLocalPlaces.f k l) n := by
  obtain ⟨bs, hb, e⟩ := spec_l6Open_eq h
  unfold spec_DrawLocalPlaces.f
  simp only [e, Option.bind_some]
  obtain ⟨n, p, q, a1, a2, a3, a4, a5⟩ := l91Local_ev hb (p := 0) (by omega) (by omega)
  exact ⟨n, a1, Ev.bind a5 (Ev.now _)⟩
theorem FnLocalPlaces_l0 {n : Int} (hn : n ≠ 0) (hb : numB n = true) {L : List Int} (hL : L.length ≤ 1000000) (hpl : ∀ p ∈ L, p ∈ placesN n) : ∀ (l pre : List Int), pre ++ l = L → Ev (fun k => laws_FnLocalPlaces.l0 k n (lplaces n) L pre.length) true := by
  have hnn := numB_true.1 hb
  have hlen : (lplaces n).length ≤ 9 := by
    have := lplacesOf_len n
    unfold lplacesOf at this
    rwa [if_pos ⟨hn, hb⟩] at this
  intro l
  induction l with
  | nil =>
    intro pre e
    have hl : L.length = pre.length := by rw [← e]; simp
    refine Ev.step (fun k => by rw [laws_FnLocalPlaces.l0, if_neg (by omega)]) (Ev.bind (impl_SquareIs_ev n) ?_)
    have : ((((lplaces n).length : Int) == 0) == squareOf n) = true := by
      rw [beq_iff_eq, beq_decide]
      unfold squareOf
      rw [hb, Bool.true_and, Bool.eq_iff_iff, decide_eq_true_iff, sqB_true, ← lplaces_nil hn]
      rw [← List.length_eq_zero_iff]
      omega
    rw [this]; exact Ev.now _
  | cons p l ih =>
    intro pre e
    have hl : L.length = pre.length + (l.length + 1) := by rw [← e]; simp
    have hrd : rd L (pre.length : Int) = p := by rw [← e]; exact rd_pre ..
    have hmem : p ∈ placesN n := hpl p (by rw [← e]; simp)
    have hp := placesN_pl hn (by omega) hmem
    have hpB : plB p = true := by
      rcases hp.1 with h | h
      · exact plB_true.2 (Or.inl h)
      · exact plB_true.2 (Or.inr ⟨h, hp.2⟩)
    have hlv : lsqOf n p = lsq n p := by
      unfold lsqOf; rw [decide_eq_true hn, hb, hpB]; rfl
    have hin : decide (p ∈ lplaces n) = !lsq n p := by
      rw [Bool.eq_iff_iff, decide_eq_true_iff]
      unfold lplaces
      rw [List.mem_filter]
      exact ⟨fun h => h.2, fun h => ⟨hmem, h⟩⟩
    have hih := ih (pre ++ [p]) (by rw [← e]; simp)
    rw [List.length_append] at hih
    refine Ev.step (fun k => by rw [laws_FnLocalPlaces.l0, if_pos (by omega), if_pos (by omega), hrd, w64 (x := (pre.length : Int) + 1) (by omega) (by omega)]) ?_
    refine Ev.bind (impl_LocalSquare_ev n p) (Ev.bind (laws_hasInt_ev (by omega)) ?_)
    rw [hlv, hin]
    have : ¬ (lsq n p == !lsq n p) = true := by cases lsq n p <;> simp
    simp only [if_neg this]
    exact hih
theorem FnLocalPlaces : laws_FnLocalPlaces.Pure := by
  intro l _ _ hl
  refine Ev.rounds ?_
  unfold laws_FnLocalPlaces.f
  by_cases hlen : (l.length : Int) > 1048576
  · simp only [if_pos hlen]; exact Ev.now _
  · simp only [if_neg hlen]
    obtain ⟨n, dn, hev⟩ := DrawLocalPlaces_ev hl
    have nb := dn.bd
    have h9 := lplacesOf_len n
    refine Ev.bind hev (Ev.bind (impl_LocalPlaces_ev n) (Ev.bind (spec_LocalPlaces_ev n) (Ev.bind (laws_sameInts_ev (by omega)) ?_)))
    simp only [decide_true, if_true]
    have no : ¬ (n ≠ 0 ∧ numB n = true) → Ev (fun k => laws_FnLocalPlaces.j0 k n (lplacesOf n) true) true := fun hc => by
      refine Ev.step (f := fun _ => some true) (fun k => ?_) (Ev.now _)
      have : lplacesOf n = [] := by unfold lplacesOf; rw [if_neg hc]
      rw [laws_FnLocalPlaces.j0, if_pos rfl, this]; rfl
    have hsz : laws_sizeOf.f n = some (n.natAbs : Int) := by
      unfold laws_sizeOf.f mx
      rw [w64 (x := -n) (by omega) (by omega)]
      congr 1
      split <;> omega
    by_cases h0 : n = 0
    · simp only [if_pos h0]; exact no (fun g => g.1 h0)
    · simp only [if_neg h0, hsz, Option.bind_some]
      by_cases hb : numB n = true
      · have hn := numB_true.1 hb
        have hv : lplacesOf n = lplaces n := by unfold lplacesOf; rw [if_pos ⟨h0, hb⟩]
        have hpv : primesOfL n = primesL n := by unfold primesOfL; rw [if_pos ⟨h0, hb⟩]
        have hpl := primesL_length h0
        rw [hv, decide_eq_false (by omega)]
        refine Ev.step (fun k => by rw [laws_FnLocalPlaces.j0, if_neg (by simp), Option.bind_some]) (Ev.bind (impl_PrimesOf_ev n) ?_)
        rw [hpv]
        simp only [if_pos (show ([0, 2] : List Int).length + (primesL n).length < 17592186044416 by simp; omega)]
        refine FnLocalPlaces_l0 h0 hb (L := [0, 2] ++ primesL n) (by simp; omega) (fun p hp => ?_) ([0, 2] ++ primesL n) [] rfl
        rw [mem_placesN h0]
        rcases List.mem_append.1 hp with h | h
        · simp only [List.mem_cons, List.not_mem_nil, or_false] at h
          rcases h with h | h
          · exact Or.inl h
          · exact Or.inr (Or.inl h)
        · exact Or.inr (Or.inr ((mem_primesL h0).1 h))
      · have : ¬ (-5000 ≤ n ∧ n ≤ 5000) := numB_false.1 (by simpa using hb)
        rw [decide_eq_true (by omega)]
        exact no (fun g => hb g.2)

end Go.Proofs.Ytclembpedndihaa.Pure
