/- At every draw the program's SquareIs is the reference's; a square has even valuations at its primes, times one of them it is none, and it has a root up to the modulus.
No condition beyond the given statement. The printed functions are tied to plain arithmetic one by one; the law follows at the end. -/
import Derived.Test.YtnbjnlbaoogbmaaWSized
import Derived.Test.YtnbjnlbaoogbmaaPFnSquarex3
import Derived.Test.YtnbjnlbaoogbmaaM9
set_option linter.unusedVariables false
set_option linter.unusedSimpArgs false
namespace Go.Proofs.Ytnbjnlbaoogbmaa
open Go.ChangeShapes Go.WideShapes
/-- The words' lemma on the length of a slice, under the name by which the row of this law calls it. -/
theorem PrintWords.sized_ints {H : Type} {enc : TypeId × Value → H} {P : Program} {W : World} {base : Nat} {spare : Nat → Bool} {held : Bool} {t e : TypeId} {k : IntKind} {a : Option Addr} {len cap : Nat} {d : DataW H} {ps : List MemPlace} {ts : List TypeId} {ds : List (DataW H)} {j : Nat}
    (hsz : (DataW.weightsEach P ts ds).all (· ≤ reachBytes) = true) (ht : ts[j]? = some t) (hd : ds[j]? = some d) (hu : P.underlying t = some (.slice e)) (he : P.underlying e = some (.int k)) (hc : P.cellsOf e = 1) {B : Nat} (hB : P.bytesOf e = B)
    (h : DataW.Trod enc P W base spare held t (.slice a len cap) d ps) : len * B ≤ 140737488351232 :=
  Go.Proofs.YtnbjnlbaoogbmaaW.PrintWords.sized_ints hsz ht hd hu he hc hB h
end Go.Proofs.Ytnbjnlbaoogbmaa
namespace Go.Proofs.Ytnbjnlbaoogbmaa.Pure
open Go.RowKit Go.Proofs.Ytnbjnlbaoogbmaa.PFnSquare Go.Proofs.YtnbjnlbaoogbmaaW.PrintWords Go.Proofs.YtnbjnlbaoogbmaaW.PrintLast Go.Proofs.YtnbjnlbaoogbmaaW.PrintMore Go.Proofs.LG

theorem spec_l6In_eq (a b c : Int) : spec_l6In.f a b c = some (decide (b ≤ a ∧ a ≤ c)) := by
  unfold spec_l6In.f
  by_cases h : a ≥ b
  · rw [if_pos h]; congr 1; rw [decide_eq_decide]; omega
  · rw [if_neg h]; congr 1; symm; rw [decide_eq_false_iff_not]; omega
theorem spec_l1Number_eq (a : Int) : spec_l1Number.f a = some (numB a) := by
  unfold spec_l1Number.f; rw [spec_l6In_eq]; rfl
theorem impl_isNumber_eq (a : Int) : impl_isNumber.f a = some (numB a) := by
  unfold impl_isNumber.f numB
  by_cases h : a ≥ -5000
  · rw [if_pos h]; congr 1; rw [decide_eq_decide]; omega
  · rw [if_neg h]; congr 1; symm; rw [decide_eq_false_iff_not]; omega
theorem impl_prime_l0 {n : Int} (h2 : 2 ≤ n) (hn : n ≤ 5000) : ∀ (d : Nat) (x : Int), 2 ≤ x → x ≤ n → n - x ≤ d → (∀ y, 2 ≤ y → y < x → ¬ y ∣ n) → Ev (fun k => impl_prime.l0 k n x) (prB n) := by
  intro d
  induction d with
  | zero =>
    intro x hx hxn hd h
    have := sq_gt hx (show n ≤ x by omega)
    have hb := mul_bd (show 0 ≤ x by omega) (show x ≤ 5000 by omega) (show 0 ≤ x by omega) (show x ≤ 5000 by omega)
    refine Ev.step (f := fun _ => some true) (fun k => ?_) ?_
    · rw [impl_prime.l0, w64 (by omega) (by omega), if_neg (by omega), decide_eq_true (by omega)]
    · rw [prB_true.2 ⟨pr_of_none h2 x (by omega) (by omega) h, hn⟩]; exact Ev.now _
  | succ d ih =>
    intro x hx hxn hd h
    have hb := mul_bd (show 0 ≤ x by omega) (show x ≤ 5000 by omega) (show 0 ≤ x by omega) (show x ≤ 5000 by omega)
    by_cases hle : x * x ≤ n
    · by_cases hdv : x ∣ n
      · have hlt : x < n := by
          have := sq_gt hx (Int.le_refl x); omega
        refine Ev.step (f := fun _ => some false) (fun k => ?_) ?_
        · rw [impl_prime.l0, w64 (by omega) (by omega), if_pos hle, if_neg (by omega), if_pos (Int.tmod_eq_zero_of_dvd hdv)]
        · rw [prB_false.2 fun hp => hp.1.2 x hx hlt hdv]; exact Ev.now _
      · have hlt : x < n := by
          have := sq_gt hx (Int.le_refl x); omega
        refine Ev.step (f := fun k => impl_prime.l0 k n (x + 1)) (fun k => ?_) (ih (x + 1) (by omega) (by omega) (by omega) ?_)
        · rw [impl_prime.l0, w64 (by omega) (by omega), if_pos hle, if_neg (by omega), if_neg (fun e => hdv (Int.dvd_of_tmod_eq_zero e)), w64 (by omega) (by omega)]
        · intro y h1 h2'
          by_cases e : y = x
          · subst e; exact hdv
          · exact h y h1 (by omega)
    · refine Ev.step (f := fun _ => some true) (fun k => ?_) ?_
      · rw [impl_prime.l0, w64 (by omega) (by omega), if_neg hle, decide_eq_true (by omega)]
      · rw [prB_true.2 ⟨pr_of_none h2 x (by omega) (by omega) h, hn⟩]; exact Ev.now _
theorem impl_PrimeIs_ev (n : Int) : Ev (fun k => impl_PrimeIs.f k n) (prB n) := by
  unfold impl_PrimeIs.f
  by_cases h5 : n ≤ 5000
  · simp only [if_pos h5]
    refine Ev.bind (a := prB n) ?_ (Ev.now _)
    unfold impl_prime.f
    by_cases h : 2 ≤ n
    · exact impl_prime_l0 h h5 (n - 2).toNat 2 (by omega) (by omega) (by omega) fun y h1 h2 => by omega
    · refine Ev.step (f := fun _ => some false) (fun k => ?_) ?_
      · rw [impl_prime.l0, w64 (by omega) (by omega), if_neg (by omega), decide_eq_false (by omega)]
      · rw [prB_false.2 fun hp => h hp.1.1]; exact Ev.now _
  · simp only [if_neg h5]
    rw [prB_false.2 fun hp => h5 hp.2]
    exact Ev.now _
theorem impl_rest_eq {n m : Int} (h0 : 0 < m) (h1 : m ≤ 1000000000) : impl_rest.f n m = some (n % m) := by
  unfold impl_rest.f; rw [if_neg (by omega), rest_form h0 h1]
theorem impl_rootMod_l0 {n m : Int} (hm : 1 ≤ m) (hm' : m ≤ 5000) : ∀ (d : Nat) (x : Int), 0 ≤ x → x + d = m → Ev (fun k => impl_rootMod.l0 k n m m x) (two (srch (fun x => decide (x * x % m = n % m)) d x)) := by
  intro d
  induction d with
  | zero =>
    intro x h0 hd
    refine Ev.step (f := fun _ => some (0, false)) (fun k => ?_) (Ev.now _)
    rw [impl_rootMod.l0, if_neg (by omega)]
  | succ d ih =>
    intro x h0 hd
    have hb := mul_bd h0 (show x ≤ 5000 by omega) h0 (show x ≤ 5000 by omega)
    rw [srch]
    by_cases h : x * x % m = n % m
    · rw [if_pos (decide_eq_true h)]
      refine Ev.step (f := fun _ => some (x, true)) (fun k => ?_) (Ev.now _)
      rw [impl_rootMod.l0, if_pos (by omega), if_neg (by omega), impl_rest_eq (by omega) (by omega), Option.bind_some, w64 (by omega) (by omega), tm hb.1, if_pos h]
    · rw [if_neg (by simpa using h)]
      refine Ev.step (fun k => ?_) (ih (x + 1) (by omega) (by omega))
      rw [impl_rootMod.l0, if_pos (by omega), if_neg (by omega), impl_rest_eq (by omega) (by omega), Option.bind_some, w64 (x := x * x) (by omega) (by omega), tm hb.1, if_neg h, w64 (by omega) (by omega)]
theorem impl_rootMod_ev {n m : Int} (hm : 1 ≤ m) (hm' : m ≤ 5000) : Ev (fun k => impl_rootMod.f k n m) (two (rootS n m)) :=
  impl_rootMod_l0 hm hm' _ 0 (by omega) (by omega)
theorem impl_RootMod_ev (n m : Int) : Ev (fun k => impl_RootMod.f k n m) (rootOf n m) := by
  unfold impl_RootMod.f rootOf
  simp only [impl_isNumber_eq, Option.bind_some]
  by_cases h : numB n = true
  · simp only [if_pos h]
    by_cases h1 : m < 1
    · simp only [if_pos h1]; rw [if_neg (by omega)]; exact Ev.now _
    · simp only [if_neg h1]
      by_cases h5 : m > 5000
      · simp only [if_pos h5]; rw [if_neg (by omega)]; exact Ev.now _
      · simp only [if_neg h5]; rw [if_pos ⟨h, by omega, by omega⟩]
        exact Ev.bind (impl_rootMod_ev (by omega) (by omega)) (Ev.now _)
  · simp only [if_neg h]; rw [if_neg (fun h' => h h'.1)]; exact Ev.now _
theorem impl_split_l0 {p : Int} (hp : 2 ≤ p) (hp' : p ≤ 1000000000000000) : ∀ (f : Nat) (n : Int), n ≠ 0 → n.natAbs ≤ f → n.natAbs ≤ 1000000000000000 → ∀ c : Int, 0 ≤ c → c + f ≤ 2000000000000000 → Ev (fun k => impl_split.l0 k n p c) (c + (spl f n p).1, (spl f n p).2) := by
  intro f
  induction f with
  | zero => intro n hn hf; omega
  | succ f ih =>
    intro n hn hf hb c hc hcf
    rw [spl]
    by_cases h : n % p = 0
    · obtain ⟨h1, h2, h3⟩ := div_smaller hp hn h
      rw [if_pos h]
      have := ih (n / p) h1 (by omega) (by omega) (c + 1) (by omega) (by omega)
      have e : c + (((spl f (n / p) p).1 + 1 : Nat) : Int) = c + 1 + ((spl f (n / p) p).1 : Int) := by omega
      show Ev (fun k => impl_split.l0 k n p c) (c + (((spl f (n / p) p).1 + 1 : Nat) : Int), (spl f (n / p) p).2)
      rw [e]
      refine Ev.step (fun k => ?_) this
      rw [impl_split.l0, if_neg (by omega), if_pos (tm_zero.2 h), td_dvd h, w64 (by omega) (by omega), w64 (by omega) (by omega)]
    · rw [if_neg h]
      refine Ev.step (f := fun _ => some (c, n)) (fun k => ?_) ?_
      · rw [impl_split.l0, if_neg (by omega), if_neg (fun e => h (tm_zero.1 e))]
      · have e : c + ((0 : Nat) : Int) = c := by omega
        show Ev _ (c + ((0 : Nat) : Int), n)
        rw [e]; exact Ev.now _
theorem impl_split_ev {n p : Int} (hp : 2 ≤ p) (hp' : p ≤ 1000000000000000) (hn : n ≠ 0) (hb : n.natAbs ≤ 1000000000000000) : Ev (fun k => impl_split.f k n p) ((vl n p : Int), un n p) := by
  have := impl_split_l0 hp hp' n.natAbs n hn (Nat.le_refl _) hb 0 (by omega) (by omega)
  rw [Int.zero_add] at this
  exact this
theorem impl_ValuationOf_ev (n p : Int) : Ev (fun k => impl_ValuationOf.f k n p) (valuOf n p) := by
  unfold impl_ValuationOf.f valuOf
  simp only [impl_isNumber_eq, Option.bind_some]
  by_cases h0 : n = 0
  · simp only [if_pos h0]; rw [if_neg (fun h' => h'.1 h0)]; exact Ev.now _
  · simp only [if_neg h0]
    by_cases h : numB n = true
    · simp only [if_pos h]
      refine Ev.bind (impl_PrimeIs_ev p) ?_
      by_cases hp : prB p = true
      · simp only [if_pos hp]; rw [if_pos ⟨h0, h, hp⟩]
        have hp' := prB_true.1 hp
        have hn := numB_true.1 h
        exact Ev.bind (impl_split_ev hp'.1.1 (by omega) h0 (by omega)) (Ev.now _)
      · simp only [if_neg hp]; rw [if_neg (fun h' => hp h'.2.2)]; exact Ev.now _
    · simp only [if_neg h]; rw [if_neg (fun h' => h h'.2.1)]; exact Ev.now _
theorem spec_l1Square_l0 {n : Int} (hn : -5000 ≤ n) (hn' : n ≤ 5000) : ∀ (d : Nat) (x : Int), 0 ≤ x → x + d = 5001 → (∀ y, 0 ≤ y → y < x → y * y < n) → Ev (fun k => spec_l1Square.l0 k n x) (sqB n) := by
  intro d
  induction d with
  | zero =>
    intro x h0 hd h
    have := h 5000 (by omega) (by omega)
    omega
  | succ d ih =>
    intro x h0 hd h
    have hb := mul_bd h0 (show x ≤ 5001 by omega) h0 (show x ≤ 5001 by omega)
    by_cases hlt : x * x < n
    · refine Ev.step (fun k => ?_) (ih (x + 1) (by omega) (by omega) fun y h1 h2 => ?_)
      · rw [spec_l1Square.l0, w64 (by omega) (by omega), if_pos hlt, w64 (by omega) (by omega)]
      · by_cases e : y = x
        · subst e; exact hlt
        · exact h y h1 (by omega)
    · refine Ev.step (f := fun _ => some (x * x == n)) (fun k => ?_) ?_
      · rw [spec_l1Square.l0, w64 (by omega) (by omega), if_neg hlt]
      · by_cases e : x * x = n
        · rw [sqB_true.2 ⟨x, e⟩, beq_iff_eq.2 e]; exact Ev.now _
        · have : sqB n = false := by
            rw [sqB_false]
            rintro ⟨k, hk⟩
            have hjj : ∃ y : Int, 0 ≤ y ∧ y * y = n := by
              by_cases h : 0 ≤ k
              · exact ⟨k, h, hk⟩
              · exact ⟨-k, by omega, by rw [Int.neg_mul_neg]; exact hk⟩
            obtain ⟨y, hy0, hy⟩ := hjj
            by_cases hyx : y < x
            · have := h y hy0 hyx; omega
            · by_cases hyx' : y = x
              · exact e (hyx' ▸ hy)
              · have h1 : (x + 1) * (x + 1) ≤ y * y := Int.mul_le_mul (by omega) (by omega) (by omega) (by omega)
                have h2 : (x + 1) * (x + 1) = x * x + 2 * x + 1 := by grind
                omega
          rw [this, beq_false_of_ne e]; exact Ev.now _
theorem spec_SquareIs_ev (n : Int) : Ev (fun k => spec_SquareIs.f k n) (squareOf n) := by
  unfold spec_SquareIs.f squareOf
  simp only [spec_l1Number_eq, Option.bind_some]
  by_cases h : numB n = true
  · simp only [if_pos h]
    have hn := numB_true.1 h
    rw [h, Bool.true_and]
    exact Ev.bind (spec_l1Square_l0 hn.1 hn.2 5001 0 (by omega) (by omega) fun y h1 h2 => by omega) (Ev.now _)
  · simp only [if_neg h]
    rw [Bool.not_eq_true] at h
    rw [h, Bool.false_and]; exact Ev.now _
theorem impl_squareRoot_l0 {n : Int} (hn : 0 ≤ n) (hn' : n ≤ 1000000) : ∀ (j : Nat) (x b : Int), 0 ≤ x → b = 2 ^ j → j ≤ 30 → x ≤ 1000000 → x * x ≤ n → n < (x + 2 * b) * (x + 2 * b) → ∃ r : Int, 0 ≤ r ∧ r * r ≤ n ∧ n < (r + 1) * (r + 1) ∧ Ev (fun k => impl_squareRoot.l0 k n x b) (r, r * r == n) := by
  intro j
  induction j with
  | zero =>
    intro x b h0 hb hj hx h1 h2
    have hb1 : b = 1 := by rw [hb]; rfl
    subst hb1
    have bd := mul_bd (show 0 ≤ x + 1 by omega) (show x + 1 ≤ 1000001 by omega) (show 0 ≤ x + 1 by omega) (show x + 1 ≤ 1000001 by omega)
    have bd2 := mul_bd h0 hx h0 hx
    by_cases hle : (x + 1) * (x + 1) ≤ n
    · have hx1 : x + 1 ≤ 1000000 := by
        by_cases h : x + 1 ≤ 1000000
        · exact h
        · have := mul_bd (show 0 ≤ (1000000 : Int) by omega) (show (1000000:Int) ≤ x + 1 by omega) (show 0 ≤ (1000000 : Int) by omega) (show (1000000:Int) ≤ x + 1 by omega)
          omega
      refine ⟨x + 1, by omega, hle, ?_, ?_⟩
      · have e : x + 2 * 1 = x + 1 + 1 := by omega
        rw [e] at h2; exact h2
      · refine Ev.step (f := fun k => impl_squareRoot.l0 k n (x + 1) 0) (fun k => ?_) (Ev.step (f := fun _ => some (x + 1, (x + 1) * (x + 1) == n)) (fun k => ?_) (Ev.now _))
        · rw [impl_squareRoot.l0, if_pos (by omega), w64 (x := x + 1) (by omega) (by omega), w64 (x := (x + 1) * (x + 1)) (by omega) (by omega), if_pos hle, half_one]
        · rw [impl_squareRoot.l0, if_neg (by omega), w64 (x := (x + 1) * (x + 1)) (by omega) (by omega)]
    · refine ⟨x, h0, h1, by omega, ?_⟩
      refine Ev.step (f := fun k => impl_squareRoot.l0 k n x 0) (fun k => ?_) (Ev.step (f := fun _ => some (x, x * x == n)) (fun k => ?_) (Ev.now _))
      · rw [impl_squareRoot.l0, if_pos (by omega), w64 (x := x + 1) (by omega) (by omega), w64 (x := (x + 1) * (x + 1)) (by omega) (by omega), if_neg hle, half_one]
      · rw [impl_squareRoot.l0, if_neg (by omega), w64 (x := x * x) (by omega) (by omega)]
  | succ j ih =>
    intro x b h0 hb hj hx h1 h2
    have hbp : b = 2 * 2 ^ j := by rw [hb, Int.pow_succ]; omega
    have hj1 : (1 : Int) ≤ 2 ^ j := pow_pos' (by omega) j
    have hj2 : (2 : Int) ^ j ≤ 1073741824 := by
      have h30 : ((2 : Nat) ^ j) ≤ 2 ^ 30 := Nat.pow_le_pow_right (by omega) (by omega)
      have e : ((2 ^ j : Nat) : Int) = (2 : Int) ^ j := by rw [Int.natCast_pow]; rfl
      rw [← e]
      have : (2 : Nat) ^ 30 = 1073741824 := by decide
      omega
    have bd := mul_bd (show 0 ≤ x + b by omega) (show x + b ≤ 3000000000 by omega) (show 0 ≤ x + b by omega) (show x + b ≤ 3000000000 by omega)
    have hhalf : Int.tdiv b 2 = 2 ^ j := by rw [hbp, Int.mul_tdiv_cancel_left _ (by omega)]
    by_cases hle : (x + b) * (x + b) ≤ n
    · have hx1 : x + b ≤ 1000000 := by
        by_cases h : x + b ≤ 1000000
        · exact h
        · have := mul_bd (show 0 ≤ (1000001 : Int) by omega) (show (1000001:Int) ≤ x + b by omega) (show 0 ≤ (1000001 : Int) by omega) (show (1000001:Int) ≤ x + b by omega)
          omega
      obtain ⟨r, a1, a2, a3, a4⟩ := ih (x + b) (2 ^ j) (by omega) rfl (by omega) hx1 hle (by
        have e : x + b + 2 * 2 ^ j = x + 2 * b := by omega
        rw [e]; exact h2)
      refine ⟨r, a1, a2, a3, Ev.step (fun k => ?_) a4⟩
      rw [impl_squareRoot.l0, if_pos (by omega), w64 (x := x + b) (by omega) (by omega), w64 (x := (x + b) * (x + b)) (by omega) (by omega), if_pos hle, hhalf, w64 (by omega) (by omega)]
    · obtain ⟨r, a1, a2, a3, a4⟩ := ih x (2 ^ j) h0 rfl (by omega) hx h1 (by rw [← hbp]; omega)
      refine ⟨r, a1, a2, a3, Ev.step (fun k => ?_) a4⟩
      rw [impl_squareRoot.l0, if_pos (by omega), w64 (x := x + b) (by omega) (by omega), w64 (x := (x + b) * (x + b)) (by omega) (by omega), if_neg hle, hhalf, w64 (by omega) (by omega)]
theorem impl_isSquare_ev {n : Int} (hn' : n ≤ 1000000) : Ev (fun k => impl_isSquare.f k n) (sqB n) := by
  unfold impl_isSquare.f impl_squareRoot.f
  by_cases h : n < 0
  · simp only [if_pos h, Option.bind_some]
    have : sqB n = false := by
      rw [sqB_false]
      rintro ⟨k, hk⟩
      have := sq_nonneg k
      omega
    rw [this]; exact Ev.now _
  · simp only [if_neg h]
    obtain ⟨r, a1, a2, a3, a4⟩ := impl_squareRoot_l0 (n := n) (by omega) hn' 30 0 1073741824 (by omega) (by decide) (by omega) (by omega) (by omega) (by omega)
    refine Ev.bind a4 ?_
    have : sqB n = (r * r == n) := by
      by_cases e : r * r = n
      · rw [sqB_true.2 ⟨r, e⟩, beq_iff_eq.2 e]
      · rw [beq_false_of_ne e, sqB_false]
        rintro ⟨k, hk⟩
        have hjj : ∃ y : Int, 0 ≤ y ∧ y * y = n := by
          by_cases h : 0 ≤ k
          · exact ⟨k, h, hk⟩
          · exact ⟨-k, by omega, by rw [Int.neg_mul_neg]; exact hk⟩
        obtain ⟨y, hy0, hy⟩ := hjj
        by_cases hyr : y ≤ r
        · by_cases hyr' : y = r
          · exact e (hyr' ▸ hy)
          · have h1 : (y + 1) * (y + 1) ≤ r * r := Int.mul_le_mul (by omega) (by omega) (by omega) (by omega)
            have h2 : (y + 1) * (y + 1) = y * y + 2 * y + 1 := by grind
            omega
        · have h1 : (r + 1) * (r + 1) ≤ y * y := Int.mul_le_mul (by omega) (by omega) (by omega) (by omega)
          omega
    rw [this]; exact Ev.now _
theorem impl_SquareIs_ev (n : Int) : Ev (fun k => impl_SquareIs.f k n) (squareOf n) := by
  unfold impl_SquareIs.f squareOf
  simp only [impl_isNumber_eq, Option.bind_some]
  by_cases h : numB n = true
  · simp only [if_pos h]
    have hn := numB_true.1 h
    rw [h, Bool.true_and]
    exact Ev.bind (impl_isSquare_ev (by omega)) (Ev.now _)
  · simp only [if_neg h]
    rw [Bool.not_eq_true] at h
    rw [h, Bool.false_and]; exact Ev.now _
theorem impl_size_eq {n : Int} (h : -1000000000000 ≤ n) (h' : n ≤ 1000000000000) : impl_size.f n = some (n.natAbs : Int) := by
  unfold impl_size.f mx
  rw [w64 (by omega) (by omega)]
  congr 1
  split <;> omega
theorem impl_primesOf_l0 : ∀ (f : Nat) (n : Int) (acc : List Int) (p : Int), 1 ≤ n → n ≤ 1000000 → 2 ≤ p → p ≤ 1000002 → n < f + p → (acc.length : Int) ≤ p → Ev (fun k => impl_primesOf.l0 k n acc p) (pfl f n acc p) := by
  intro f
  have last : ∀ (n : Int) (acc : List Int) (p : Int), 1 ≤ n → n ≤ 1000000 → 2 ≤ p → p ≤ 1000002 → n < p * p → (acc.length : Int) ≤ p → Ev (fun k => impl_primesOf.l0 k n acc p) (if n > 1 then acc ++ [n] else acc) := by
    intro n acc p hn hn' hp hp' hlt hl
    have hb := mul_bd (show 0 ≤ p by omega) hp' (show 0 ≤ p by omega) hp'
    refine Ev.step (f := fun _ => some (if n > 1 then acc ++ [n] else acc)) (fun k => ?_) (Ev.now _)
    rw [impl_primesOf.l0, w64 (by omega) (by omega), if_neg (by omega)]
    by_cases h1 : n > 1
    · rw [if_pos h1, if_pos h1, if_pos (by omega)]
    · rw [if_neg h1, if_neg h1]
  induction f with
  | zero =>
    intro n acc p hn hn' hp hp' hf hl
    rw [pfl]
    exact last n acc p hn hn' hp hp' (sq_gt hp (by omega)) hl
  | succ f ih =>
    intro n acc p hn hn' hp hp' hf hl
    have hb := mul_bd (show 0 ≤ p by omega) hp' (show 0 ≤ p by omega) hp'
    rw [pfl]
    by_cases hle : p * p ≤ n
    · rw [if_pos hle]
      have hpn : p ≤ n := by have := sq_gt hp (Int.le_refl p); omega
      by_cases hm : n % p = 0
      · rw [if_pos hm]
        have hu := un_pos hp hn
        refine Ev.step (f := fun k => (impl_split.f k n p).bind fun bt => impl_primesOf.l0 k bt.2 (acc ++ [p]) (p + 1)) (fun k => ?_) (Ev.bind (impl_split_ev hp (by omega) (by omega) (by omega)) (ih (un n p) (acc ++ [p]) (p + 1) hu.1 (by omega) (by omega) (by omega) (by omega) (by simp; omega)))
        rw [impl_primesOf.l0, w64 (x := p * p) (by omega) (by omega), if_pos hle, if_neg (by omega), if_pos (tm_zero.2 hm), if_pos (by omega), w64 (x := p + 1) (by omega) (by omega)]
      · rw [if_neg hm]
        refine Ev.step (fun k => ?_) (ih n acc (p + 1) hn hn' (by omega) (by omega) (by omega) (by omega))
        rw [impl_primesOf.l0, w64 (x := p * p) (by omega) (by omega), if_pos hle, if_neg (by omega), if_neg (fun e => hm (tm_zero.1 e)), w64 (x := p + 1) (by omega) (by omega)]
    · rw [if_neg hle]
      exact last n acc p hn hn' hp hp' (by omega) hl
theorem impl_primesOf_ev {n : Int} (hn : n ≠ 0) (hb : n.natAbs ≤ 1000000) : Ev (fun k => impl_primesOf.f k n) (primesL n) := by
  unfold impl_primesOf.f
  simp only [impl_size_eq (n := n) (by omega) (by omega), Option.bind_some]
  exact impl_primesOf_l0 n.natAbs n.natAbs [] 2 (by omega) (by omega) (by omega) (by omega) (by omega) (by simp)
theorem rd_pre (p : List Int) (a : Int) (l : List Int) : rd (p ++ a :: l) (p.length : Int) = a := by
  unfold rd
  rw [Int.toNat_natCast, List.getD_eq_getElem?_getD, List.getElem?_append_right (Nat.le_refl _)]
  simp
theorem set_pre (p : List Int) (a : Int) (l : List Int) (c : Int) : (p ++ a :: l).set ((p.length : Int)).toNat c = p ++ c :: l := by
  rw [Int.toNat_natCast, List.set_append_right _ _ (Nat.le_refl _)]
  simp
theorem impl_PrimesOf_ev (n : Int) : Ev (fun k => impl_PrimesOf.f k n) (primesOfL n) := by
  unfold impl_PrimesOf.f primesOfL
  simp only [impl_isNumber_eq, Option.bind_some]
  by_cases h0 : n = 0
  · simp only [if_pos h0]; rw [if_neg (fun h => h.1 h0)]; exact Ev.now _
  · simp only [if_neg h0]
    by_cases h : numB n = true
    · simp only [if_pos h]; rw [if_pos ⟨h0, h⟩]
      have hn := numB_true.1 h
      exact Ev.bind (impl_primesOf_ev h0 (by omega)) (Ev.now _)
    · simp only [if_neg h]; rw [if_neg (fun h' => h h'.2)]; exact Ev.now _
theorem spec_l6Open_eq {l : List Int} (h : ∀ x ∈ l, (Lit.int .u8 x).wf = true) : ∃ b, GB b ∧ spec_l6Open.f l = some (b, 0) := by
  unfold spec_l6Open.f
  by_cases h1 : (l.length : Int) > 2000
  · rw [if_pos h1, if_pos (by omega)]
    exact ⟨l.take 2000, ⟨by simp; omega, fun x hx => u8_bd (h x (List.mem_of_mem_take hx))⟩, rfl⟩
  · rw [if_neg h1]
    exact ⟨l, ⟨by omega, fun x hx => u8_bd (h x hx)⟩, rfl⟩
theorem rd_bd {b : List Int} (hb : GB b) (i : Int) : 0 ≤ rd b i ∧ rd b i ≤ 255 := by
  unfold rd
  rw [List.getD_eq_getElem?_getD]
  cases h : b[i.toNat]? with
  | none => simp
  | some x => exact hb.2 x (List.mem_of_getElem? h)
theorem pick_ev {b : List Int} (hb : GB b) {p n : Int} (hp : 0 ≤ p) (hp' : p ≤ 1000) (hn : 1 ≤ n) (hn' : n ≤ 1000) : ∃ v, 0 ≤ v ∧ v < n ∧ Ev (fun k => spec_l6Rd_pick.f k b p n) (v, p + 1) := by
  have hl := hb.1
  have e1 : wrap64 (p + 1) = p + 1 := w64 (by omega) (by omega)
  have e2 : wrap64 (p + 1 - 1) = p := by rw [w64 (by omega) (by omega)]; omega
  unfold spec_l6Rd_pick.f
  simp only [if_neg (show ¬ n < 1 by omega), e1]
  by_cases h0 : b.length = 0
  · refine ⟨0, by omega, by omega, Ev.step (f := fun _ => some (0, p + 1)) (fun k => ?_) (Ev.now _)⟩
    rw [spec_l6Rd_pick.j0, if_pos (by simp [h0])]
  · have hL : ((b.length : Int) == 0) = false := by rw [beq_eq_false_iff_ne]; omega
    rw [hL]
    by_cases h1 : p < (b.length : Int)
    · have hr := rd_bd hb p
      have m := emod_bd (rd b p) (show 0 < n by omega)
      refine ⟨rd b p % n, m.1, m.2, Ev.step (f := fun _ => some (rd b p % n, p + 1)) (fun k => ?_) (Ev.now _)⟩
      rw [spec_l6Rd_pick.j0, if_neg (by simp), e2, if_pos h1, if_pos hp, if_neg (by omega), w64 (x := rd b p) (by omega) (by omega), tm hr.1]
    · have m1 := emod_bd p (show (0 : Int) < b.length by omega)
      have t1 : Int.tmod p (b.length : Int) = p % (b.length : Int) := tm hp
      have e7 : wrap64 (wrap64 (p * 7) + 3) = p * 7 + 3 := by rw [w64 (x := p * 7) (by omega) (by omega), w64 (by omega) (by omega)]
      have t2 : Int.tmod (p * 7 + 3) (b.length : Int) = (p * 7 + 3) % (b.length : Int) := tm (by omega)
      have m2 := emod_bd (p * 7 + 3) (show (0 : Int) < b.length by omega)
      have r1 := rd_bd hb (p % (b.length : Int))
      have r2 := rd_bd hb ((p * 7 + 3) % (b.length : Int))
      have d1 : Int.tdiv p (b.length : Int) = p / (b.length : Int) := Int.tdiv_eq_ediv_of_nonneg hp
      have d2 : 0 ≤ p / (b.length : Int) ∧ p / (b.length : Int) ≤ p := ⟨Int.ediv_nonneg hp (by omega), Int.ediv_le_self _ hp⟩
      have key : ∃ v, 0 ≤ v ∧ v < n ∧ ∀ k, spec_l6Rd_pick.j0 (k + 1) n false b (p + 1) = some (v, p + 1) := by
        generalize hq1 : rd b (p % (b.length : Int)) = q1 at r1
        generalize hq2 : rd b ((p * 7 + 3) % (b.length : Int)) = q2 at r2
        generalize hq3 : p / (b.length : Int) = q3 at d1 d2
        have hx0 : 0 ≤ Go.bits .xor .i64 (q1 * 131 + q2 * 1117 + p * 29 + q3 * 53) ((q1 * 131 + q2 * 1117 + p * 29 + q3 * 53) / 64) := xor_nonneg (by omega) (by omega) (by omega) (by omega)
        refine ⟨_, (emod_bd (Go.bits .xor .i64 (q1 * 131 + q2 * 1117 + p * 29 + q3 * 53) ((q1 * 131 + q2 * 1117 + p * 29 + q3 * 53) / 64)) (show 0 < n by omega)).1, (emod_bd _ (show 0 < n by omega)).2, fun k => ?_⟩
        rw [spec_l6Rd_pick.j0, if_neg (by simp), e2, if_neg h1, if_neg (by omega), t1, if_pos m1.1, if_pos m1.2, e7, t2, if_pos m2.1, if_pos m2.2, if_neg (by omega), hq1, hq2, d1,
          w64 (x := q1) (by omega) (by omega), w64 (x := q2) (by omega) (by omega), w64 (x := q1 * 131) (by omega) (by omega), w64 (x := q2 * 1117) (by omega) (by omega), w64 (x := q1 * 131 + q2 * 1117) (by omega) (by omega),
          w64 (x := p * 29) (by omega) (by omega), w64 (x := q1 * 131 + q2 * 1117 + p * 29) (by omega) (by omega), w64 (x := q3) (by omega) (by omega), w64 (x := q3 * 53) (by omega) (by omega),
          w64 (x := q1 * 131 + q2 * 1117 + p * 29 + q3 * 53) (by omega) (by omega),
          Int.tdiv_eq_ediv_of_nonneg (a := q1 * 131 + q2 * 1117 + p * 29 + q3 * 53) (by omega), w64 (x := (q1 * 131 + q2 * 1117 + p * 29 + q3 * 53) / 64) (by omega) (by omega), tm hx0]
      obtain ⟨v, h2, h3, h4⟩ := key
      exact ⟨v, h2, h3, Ev.step (f := fun _ => some (v, p + 1)) h4 (Ev.now _)⟩
theorem l91Number_ev {b : List Int} (hb : GB b) {p : Int} (hp : 0 ≤ p) (hp' : p ≤ 500) : ∃ n q, DN n ∧ p ≤ q ∧ q ≤ p + 4 ∧ Ev (fun k => spec_l91Number.f k b p) (n, q) := by
  unfold spec_l91Number.f
  obtain ⟨v, a1, a2, a3⟩ := pick_ev hb (p := p) (n := 30) hp (by omega) (by omega) (by omega)
  by_cases h : v = 0
  · obtain ⟨u, b1, b2, b3⟩ := pick_ev hb (p := p + 1) (n := 6) (by omega) (by omega) (by omega) (by omega)
    have key : DN (rd [0, 5000, 5001, (-5001), 4096, 3969] u) := by
      have : u = 0 ∨ u = 1 ∨ u = 2 ∨ u = 3 ∨ u = 4 ∨ u = 5 := by omega
      rcases this with rfl | rfl | rfl | rfl | rfl | rfl <;> simp [DN, rd]
    refine ⟨_, p + 2, key, by omega, by omega, Ev.bind a3 ?_⟩
    simp only [if_pos h, Option.bind_some]
    refine Ev.bind b3 ?_
    simp only [if_pos b1]
    rw [if_pos (by simp; omega), show p + 1 + 1 = p + 2 by omega]
    exact Ev.now _
  · obtain ⟨u, b1, b2, b3⟩ := pick_ev hb (p := p + 1) (n := 40) (by omega) (by omega) (by omega) (by omega)
    obtain ⟨x, c1, c2, c3⟩ := pick_ev hb (p := p + 1 + 1) (n := 3) (by omega) (by omega) (by omega) (by omega)
    obtain ⟨s, d1, d2, d3⟩ := pick_ev hb (p := p + 1 + 1 + 1) (n := 2) (by omega) (by omega) (by omega) (by omega)
    have hux : 0 ≤ u * (1 + x) ∧ u * (1 + x) ≤ 117 := by
      have : x = 0 ∨ x = 1 ∨ x = 2 := by omega
      rcases this with rfl | rfl | rfl <;> omega
    by_cases hs : s = 0
    · refine ⟨-(1 + u * (1 + x)), p + 4, ?_, by omega, by omega, Ev.bind a3 ?_⟩
      · unfold DN; omega
      simp only [if_neg h]
      refine Ev.bind b3 (Ev.bind c3 (Ev.bind d3 ?_))
      simp only [if_pos hs]
      rw [w64 (x := 1 + x) (by omega) (by omega), w64 (x := u * (1 + x)) (by omega) (by omega), w64 (x := 1 + u * (1 + x)) (by omega) (by omega), w64 (x := -(1 + u * (1 + x))) (by omega) (by omega), show p + 1 + 1 + 1 + 1 = p + 4 by omega]
      exact Ev.now _
    · refine ⟨1 + u * (1 + x), p + 4, ?_, by omega, by omega, Ev.bind a3 ?_⟩
      · unfold DN; omega
      simp only [if_neg h]
      refine Ev.bind b3 (Ev.bind c3 (Ev.bind d3 ?_))
      simp only [if_neg hs]
      rw [w64 (x := 1 + x) (by omega) (by omega), w64 (x := u * (1 + x)) (by omega) (by omega), w64 (x := 1 + u * (1 + x)) (by omega) (by omega), show p + 1 + 1 + 1 + 1 = p + 4 by omega]
      exact Ev.now _
theorem DrawSquareIs_ev {l : List Int} (h : ∀ x ∈ l, (Lit.int .u8 x).wf = true) : ∃ n, (-5001 ≤ n ∧ n ≤ 5001) ∧ Ev (fun k => spec_DrawSquareIs.f k l) n := by
  obtain ⟨bs, hb, e⟩ := spec_l6Open_eq h
  unfold spec_DrawSquareIs.f
  simp only [e, Option.bind_some]
  obtain ⟨v, a1, a2, a3⟩ := pick_ev hb (p := 0) (n := 2) (by omega) (by omega) (by omega) (by omega)
  by_cases h0 : v = 0
  · obtain ⟨x, b1, b2, b3⟩ := pick_ev hb (p := 0 + 1) (n := 71) (by omega) (by omega) (by omega) (by omega)
    have m := mul_bd b1 (show x ≤ 70 by omega) b1 (show x ≤ 70 by omega)
    refine ⟨x * x, ⟨by omega, by omega⟩, Ev.bind a3 ?_⟩
    simp only [if_pos h0]
    refine Ev.bind b3 ?_
    rw [w64 (x := x * x) (by omega) (by omega)]; exact Ev.now _
  · obtain ⟨n, q, b1, b2, b3, b4⟩ := l91Number_ev hb (p := 0 + 1) (by omega) (by omega)
    refine ⟨n, b1.bd, Ev.bind a3 ?_⟩
    simp only [if_neg h0]
    exact Ev.bind b4 (Ev.now _)
theorem FnSquare_end {n : Int} {m L : List Int} (hb : numB n = true) (hs : ∃ k : Int, k * k = n) (hm : (m.length : Int) ≤ 1048576) : Ev (fun k => (impl_RootMod.f k n (wrap64 (1 + (Int.tmod (wrap64 ((m.length : Int) * 7)) 90)))).bind fun bt => some bt.2) true := by
  obtain ⟨j, hj⟩ := hs
  rw [w64 (x := (m.length : Int) * 7) (by omega) (by omega), tm (show 0 ≤ (m.length : Int) * 7 by omega)]
  have hk := emod_bd ((m.length : Int) * 7) (show (0 : Int) < 90 by omega)
  generalize (m.length : Int) * 7 % 90 = c at hk
  rw [w64 (x := 1 + c) (by omega) (by omega)]
  refine Ev.bind (impl_RootMod_ev n (1 + c)) ?_
  obtain ⟨r, hr⟩ := rootS_some (n := n) (m := 1 + c) (x := j) (by omega) (by rw [hj, Int.sub_self]; exact Int.dvd_zero _)
  have : rootOf n (1 + c) = (r, true) := by unfold rootOf; rw [if_pos ⟨hb, by omega, by omega⟩, hr]; rfl
  rw [this]; exact Ev.now _
theorem FnSquare_l0 {n : Int} {m : List Int} (hn : n ≠ 0) (hb : numB n = true) (hs : ∃ k : Int, k * k = n) (hm : (m.length : Int) ≤ 1048576) : ∀ (l pre : List Int), pre ++ l = primesL n → Ev (fun k => laws_FnSquare.l0 k m n (primesL n) pre.length) true := by
  have hlen := primesL_length hn
  have hnn := numB_true.1 hb
  intro l
  induction l with
  | nil =>
    intro pre e
    have hl : (primesL n).length = pre.length := by rw [← e]; simp
    refine Ev.step (fun k => by rw [laws_FnSquare.l0, if_neg (by omega)]) (FnSquare_end (L := []) hb hs hm)
  | cons p l ih =>
    intro pre e
    obtain ⟨j, hj⟩ := hs
    have hl : (primesL n).length = pre.length + (l.length + 1) := by rw [← e]; simp
    have hrd : rd (primesL n) (pre.length : Int) = p := by rw [← e]; exact rd_pre ..
    have hmem : p ∈ primesL n := by rw [← e]; simp
    have hp := ((mem_primesL hn).1 hmem).1
    have hple := primesL_le hn hmem
    have hpB : prB p = true := prB_true.2 ⟨hp, by omega⟩
    have hj0 : j ≠ 0 := by rintro rfl; exact hn hj.symm
    have hv : valuOf n p = (vl n p : Int) := by unfold valuOf; rw [if_pos ⟨hn, hb, hpB⟩]
    have hev2 : vl n p = 2 * vl j p := by rw [← hj]; exact vl_sq hp hj0
    have hsq : squareOf (n * p) = false := by
      unfold squareOf
      rw [Bool.and_eq_false_iff]
      right
      rw [sqB_false, ← hj]
      exact not_sq_mul hp hj0
    have m1 := abs_mul_bd hnn.1 hnn.2 (show -5000 ≤ p by omega) (show p ≤ 5000 by omega)
    have hih := ih (pre ++ [p]) (by rw [← e]; simp)
    rw [List.length_append] at hih
    refine Ev.step (f := fun k => (impl_ValuationOf.f k n p).bind fun t => if (Int.tmod t 2) = 0 then (impl_SquareIs.f k (n * p)).bind fun t => if t = true then some false else laws_FnSquare.l0 k m n (primesL n) ((pre.length : Int) + 1) else some false) (fun k => ?_) (Ev.bind (impl_ValuationOf_ev n p) ?_)
    · rw [laws_FnSquare.l0, if_pos (by omega), if_pos (by omega), hrd, w64 (x := n * p) (by omega) (by omega), w64 (x := (pre.length : Int) + 1) (by omega) (by omega)]
    · rw [hv]
      simp only [tm (show (0 : Int) ≤ (vl n p : Int) by omega), if_pos (show (vl n p : Int) % 2 = 0 by omega)]
      refine Ev.bind (impl_SquareIs_ev (n * p)) ?_
      rw [hsq]
      simp only [Bool.false_eq_true, if_false]
      exact hih
theorem FnSquare : laws_FnSquare.Pure := by
  intro l m _ _ hl _ _ _
  refine Ev.rounds ?_
  unfold laws_FnSquare.f
  have stop : ∀ (r : List Int), Ev (fun k => laws_FnSquare.j0 k l r true) true := fun r =>
    Ev.step (f := fun _ => some true) (fun k => by rw [laws_FnSquare.j0, if_pos rfl]) (Ev.now _)
  by_cases hlen : (l.length : Int) > 1048576
  · simp only [if_pos hlen]; exact stop m
  · simp only [if_neg hlen]
    by_cases hlm : (m.length : Int) > 1048576
    · rw [decide_eq_true hlm]; exact stop m
    · rw [decide_eq_false hlm]
      refine Ev.step (fun k => by rw [laws_FnSquare.j0, if_neg (by simp)]) ?_
      obtain ⟨n, dn, hev⟩ := DrawSquareIs_ev hl
      refine Ev.bind hev (Ev.bind (impl_SquareIs_ev n) (Ev.bind (spec_SquareIs_ev n) ?_))
      simp only [bne_self_eq_false, Bool.false_eq_true, if_false]
      by_cases hs : squareOf n = true
      · rw [hs]
        unfold squareOf at hs
        rw [Bool.and_eq_true, sqB_true] at hs
        refine Ev.step (fun k => by rw [laws_FnSquare.j1, if_neg (by simp)]) ?_
        refine Ev.bind (impl_PrimesOf_ev n) ?_
        by_cases hn : n = 0
        · have : primesOfL n = [] := by unfold primesOfL; rw [if_neg (fun h => h.1 hn)]
          rw [this]
          refine Ev.step (fun k => by rw [laws_FnSquare.l0, if_neg (by simp)]) (FnSquare_end (L := []) hs.1 hs.2 (by omega))
        · have : primesOfL n = primesL n := by unfold primesOfL; rw [if_pos ⟨hn, hs.1⟩]
          rw [this]
          exact FnSquare_l0 hn hs.1 hs.2 (by omega) (primesL n) [] rfl
      · rw [Bool.not_eq_true] at hs
        rw [hs]
        refine Ev.step (f := fun _ => some true) (fun k => ?_) (Ev.now _)
        rw [laws_FnSquare.j1, if_pos (by simp), beq_self_eq_true]

end Go.Proofs.Ytnbjnlbaoogbmaa.Pure
