/- At every draw the program's LocalSquare is the reference's; a local square has the name 1, it stays one times a square, and at a small prime it has a root up to the third power.
No condition beyond the given statement. The printed functions are tied to plain arithmetic one by one; the law follows at the end. -/
import Derived.Test.YtpcocojkhcokmaaWSized
import Derived.Test.YtpcocojkhcokmaaPFnLocalSquarex4
import Derived.Test.YtpcocojkhcokmaaM10
set_option linter.unusedVariables false
set_option linter.unusedSimpArgs false
namespace Go.Proofs.Ytpcocojkhcokmaa
open Go.ChangeShapes Go.WideShapes
/-- The words' lemma on the length of a slice, under the name by which the row of this law calls it. -/
theorem PrintWords.sized_ints {H : Type} {enc : TypeId × Value → H} {P : Program} {W : World} {base : Nat} {spare : Nat → Bool} {held : Bool} {t e : TypeId} {k : IntKind} {a : Option Addr} {len cap : Nat} {d : DataW H} {ps : List MemPlace} {ts : List TypeId} {ds : List (DataW H)} {j : Nat}
    (hsz : (DataW.weightsEach P ts ds).all (· ≤ reachBytes) = true) (ht : ts[j]? = some t) (hd : ds[j]? = some d) (hu : P.underlying t = some (.slice e)) (he : P.underlying e = some (.int k)) (hc : P.cellsOf e = 1) {B : Nat} (hB : P.bytesOf e = B)
    (h : DataW.Trod enc P W base spare held t (.slice a len cap) d ps) : len * B ≤ 140737488351232 :=
  Go.Proofs.YtpcocojkhcokmaaW.PrintWords.sized_ints hsz ht hd hu he hc hB h
end Go.Proofs.Ytpcocojkhcokmaa
namespace Go.Proofs.Ytpcocojkhcokmaa.Pure
open Go.RowKit Go.Proofs.Ytpcocojkhcokmaa.PFnLocalSquare Go.Proofs.YtpcocojkhcokmaaW.PrintWords Go.Proofs.YtpcocojkhcokmaaW.PrintLast Go.Proofs.YtpcocojkhcokmaaW.PrintMore Go.Proofs.LG

theorem spec_l6In_eq (a b c : Int) : spec_l6In.f a b c = some (decide (b ≤ a ∧ a ≤ c)) := by
  unfold spec_l6In.f
  by_cases h : a ≥ b
  · rw [if_pos h]; congr 1; rw [decide_eq_decide]; omega
  · rw [if_neg h]; congr 1; symm; rw [decide_eq_false_iff_not]; omega
theorem spec_l1Number_eq (a : Int) : spec_l1Number.f a = some (numB a) := by
  unfold spec_l1Number.f; rw [spec_l6In_eq]; rfl
theorem impl_isNumber_eq (a : Int) : impl_isNumber.f a = some (numB a) := by
  unfold impl_isNumber.f numB
  by_cases h : a ≥ -5000
  · rw [if_pos h]; congr 1; rw [decide_eq_decide]; omega
  · rw [if_neg h]; congr 1; symm; rw [decide_eq_false_iff_not]; omega
theorem spec_PrimeIs_l0 {n : Int} (h2 : 2 ≤ n) (hn : n ≤ 5000) : ∀ (d : Nat) (x : Int), 2 ≤ x → x ≤ n → n - x ≤ d → (∀ y, 2 ≤ y → y < x → ¬ y ∣ n) → Ev (fun k => spec_PrimeIs.l0 k n x) (prB n) := by
  intro d
  induction d with
  | zero =>
    intro x hx hxn hd h
    have := sq_gt hx (show n ≤ x by omega)
    have hb := mul_bd (show 0 ≤ x by omega) (show x ≤ 5000 by omega) (show 0 ≤ x by omega) (show x ≤ 5000 by omega)
    refine Ev.step (f := fun _ => some true) (fun k => ?_) ?_
    · rw [spec_PrimeIs.l0, w64 (by omega) (by omega), if_neg (by omega)]
    · rw [prB_true.2 ⟨pr_of_none h2 x (by omega) (by omega) h, hn⟩]; exact Ev.now _
  | succ d ih =>
    intro x hx hxn hd h
    have hb := mul_bd (show 0 ≤ x by omega) (show x ≤ 5000 by omega) (show 0 ≤ x by omega) (show x ≤ 5000 by omega)
    by_cases hle : x * x ≤ n
    · by_cases hdv : x ∣ n
      · have hlt : x < n := by
          have := sq_gt hx (Int.le_refl x); omega
        refine Ev.step (f := fun _ => some false) (fun k => ?_) ?_
        · rw [spec_PrimeIs.l0, w64 (by omega) (by omega), if_pos hle, if_neg (by omega), if_pos (Int.tmod_eq_zero_of_dvd hdv)]
        · rw [prB_false.2 fun hp => hp.1.2 x hx hlt hdv]; exact Ev.now _
      · have hlt : x < n := by
          have := sq_gt hx (Int.le_refl x); omega
        refine Ev.step (f := fun k => spec_PrimeIs.l0 k n (x + 1)) (fun k => ?_) (ih (x + 1) (by omega) (by omega) (by omega) ?_)
        · rw [spec_PrimeIs.l0, w64 (by omega) (by omega), if_pos hle, if_neg (by omega), if_neg (fun e => hdv (Int.dvd_of_tmod_eq_zero e)), w64 (by omega) (by omega)]
        · intro y h1 h2'
          by_cases e : y = x
          · subst e; exact hdv
          · exact h y h1 (by omega)
    · refine Ev.step (f := fun _ => some true) (fun k => ?_) ?_
      · rw [spec_PrimeIs.l0, w64 (by omega) (by omega), if_neg hle]
      · rw [prB_true.2 ⟨pr_of_none h2 x (by omega) (by omega) h, hn⟩]; exact Ev.now _
theorem spec_PrimeIs_ev (n : Int) : Ev (fun k => spec_PrimeIs.f k n) (prB n) := by
  unfold spec_PrimeIs.f
  simp only [spec_l6In_eq, Option.bind_some]
  by_cases h : 2 ≤ n ∧ n ≤ 5000
  · rw [decide_eq_true h]
    simp only [if_true]
    exact spec_PrimeIs_l0 h.1 h.2 (n - 2).toNat 2 (by omega) (by omega) (by omega) fun y h1 h2 => by omega
  · rw [decide_eq_false h]
    rw [prB_false.2 fun hp => h ⟨hp.1.1, hp.2⟩]
    exact Ev.now _
theorem impl_prime_l0 {n : Int} (h2 : 2 ≤ n) (hn : n ≤ 5000) : ∀ (d : Nat) (x : Int), 2 ≤ x → x ≤ n → n - x ≤ d → (∀ y, 2 ≤ y → y < x → ¬ y ∣ n) → Ev (fun k => impl_prime.l0 k n x) (prB n) := by
  intro d
  induction d with
  | zero =>
    intro x hx hxn hd h
    have := sq_gt hx (show n ≤ x by omega)
    have hb := mul_bd (show 0 ≤ x by omega) (show x ≤ 5000 by omega) (show 0 ≤ x by omega) (show x ≤ 5000 by omega)
    refine Ev.step (f := fun _ => some true) (fun k => ?_) ?_
    · rw [impl_prime.l0, w64 (by omega) (by omega), if_neg (by omega), decide_eq_true (by omega)]
    · rw [prB_true.2 ⟨pr_of_none h2 x (by omega) (by omega) h, hn⟩]; exact Ev.now _
  | succ d ih =>
    intro x hx hxn hd h
    have hb := mul_bd (show 0 ≤ x by omega) (show x ≤ 5000 by omega) (show 0 ≤ x by omega) (show x ≤ 5000 by omega)
    by_cases hle : x * x ≤ n
    · by_cases hdv : x ∣ n
      · have hlt : x < n := by
          have := sq_gt hx (Int.le_refl x); omega
        refine Ev.step (f := fun _ => some false) (fun k => ?_) ?_
        · rw [impl_prime.l0, w64 (by omega) (by omega), if_pos hle, if_neg (by omega), if_pos (Int.tmod_eq_zero_of_dvd hdv)]
        · rw [prB_false.2 fun hp => hp.1.2 x hx hlt hdv]; exact Ev.now _
      · have hlt : x < n := by
          have := sq_gt hx (Int.le_refl x); omega
        refine Ev.step (f := fun k => impl_prime.l0 k n (x + 1)) (fun k => ?_) (ih (x + 1) (by omega) (by omega) (by omega) ?_)
        · rw [impl_prime.l0, w64 (by omega) (by omega), if_pos hle, if_neg (by omega), if_neg (fun e => hdv (Int.dvd_of_tmod_eq_zero e)), w64 (by omega) (by omega)]
        · intro y h1 h2'
          by_cases e : y = x
          · subst e; exact hdv
          · exact h y h1 (by omega)
    · refine Ev.step (f := fun _ => some true) (fun k => ?_) ?_
      · rw [impl_prime.l0, w64 (by omega) (by omega), if_neg hle, decide_eq_true (by omega)]
      · rw [prB_true.2 ⟨pr_of_none h2 x (by omega) (by omega) h, hn⟩]; exact Ev.now _
theorem impl_PrimeIs_ev (n : Int) : Ev (fun k => impl_PrimeIs.f k n) (prB n) := by
  unfold impl_PrimeIs.f
  by_cases h5 : n ≤ 5000
  · simp only [if_pos h5]
    refine Ev.bind (a := prB n) ?_ (Ev.now _)
    unfold impl_prime.f
    by_cases h : 2 ≤ n
    · exact impl_prime_l0 h h5 (n - 2).toNat 2 (by omega) (by omega) (by omega) fun y h1 h2 => by omega
    · refine Ev.step (f := fun _ => some false) (fun k => ?_) ?_
      · rw [impl_prime.l0, w64 (by omega) (by omega), if_neg (by omega), decide_eq_false (by omega)]
      · rw [prB_false.2 fun hp => h hp.1.1]; exact Ev.now _
  · simp only [if_neg h5]
    rw [prB_false.2 fun hp => h5 hp.2]
    exact Ev.now _
theorem spec_PlaceValid_ev (n : Int) : Ev (fun k => spec_PlaceValid.f k n) (plB n) := by
  unfold spec_PlaceValid.f plB
  by_cases h : n = 0
  · simp only [if_pos h, h, decide_true, Bool.true_or]; exact Ev.now _
  · simp only [if_neg h, decide_eq_false h, Bool.false_or]
    exact Ev.bind (spec_PrimeIs_ev n) (Ev.now _)
theorem impl_PlaceValid_ev (n : Int) : Ev (fun k => impl_PlaceValid.f k n) (plB n) := by
  unfold impl_PlaceValid.f plB
  by_cases h : n = 0
  · simp only [if_pos h, h, decide_true, Bool.true_or]; exact Ev.now _
  · simp only [if_neg h, decide_eq_false h, Bool.false_or]
    exact Ev.bind (impl_PrimeIs_ev n) (Ev.now _)
theorem spec_l1Mod_eq {n m : Int} (h0 : 0 < m) (h1 : m ≤ 1000000000) : spec_l1Mod.f n m = some (n % m) := by
  unfold spec_l1Mod.f; rw [if_neg (by omega), rest_form h0 h1]
theorem impl_rest_eq {n m : Int} (h0 : 0 < m) (h1 : m ≤ 1000000000) : impl_rest.f n m = some (n % m) := by
  unfold impl_rest.f; rw [if_neg (by omega), rest_form h0 h1]
theorem impl_rootMod_l0 {n m : Int} (hm : 1 ≤ m) (hm' : m ≤ 5000) : ∀ (d : Nat) (x : Int), 0 ≤ x → x + d = m → Ev (fun k => impl_rootMod.l0 k n m m x) (two (srch (fun x => decide (x * x % m = n % m)) d x)) := by
  intro d
  induction d with
  | zero =>
    intro x h0 hd
    refine Ev.step (f := fun _ => some (0, false)) (fun k => ?_) (Ev.now _)
    rw [impl_rootMod.l0, if_neg (by omega)]
  | succ d ih =>
    intro x h0 hd
    have hb := mul_bd h0 (show x ≤ 5000 by omega) h0 (show x ≤ 5000 by omega)
    rw [srch]
    by_cases h : x * x % m = n % m
    · rw [if_pos (decide_eq_true h)]
      refine Ev.step (f := fun _ => some (x, true)) (fun k => ?_) (Ev.now _)
      rw [impl_rootMod.l0, if_pos (by omega), if_neg (by omega), impl_rest_eq (by omega) (by omega), Option.bind_some, w64 (by omega) (by omega), tm hb.1, if_pos h]
    · rw [if_neg (by simpa using h)]
      refine Ev.step (fun k => ?_) (ih (x + 1) (by omega) (by omega))
      rw [impl_rootMod.l0, if_pos (by omega), if_neg (by omega), impl_rest_eq (by omega) (by omega), Option.bind_some, w64 (x := x * x) (by omega) (by omega), tm hb.1, if_neg h, w64 (by omega) (by omega)]
theorem impl_rootMod_ev {n m : Int} (hm : 1 ≤ m) (hm' : m ≤ 5000) : Ev (fun k => impl_rootMod.f k n m) (two (rootS n m)) :=
  impl_rootMod_l0 hm hm' _ 0 (by omega) (by omega)
theorem spec_l1Valuation_l0 {p : Int} (hp : 2 ≤ p) (hp' : p ≤ 1000000000000000) : ∀ (f : Nat) (n : Int), n ≠ 0 → n.natAbs ≤ f → n.natAbs ≤ 1000000000000000 → ∀ c : Int, 0 ≤ c → c + f ≤ 2000000000000000 → Ev (fun k => spec_l1Valuation.l0 k n p c) (c + (spl f n p).1, (spl f n p).2) := by
  intro f
  induction f with
  | zero => intro n hn hf; omega
  | succ f ih =>
    intro n hn hf hb c hc hcf
    rw [spl]
    by_cases h : n % p = 0
    · obtain ⟨h1, h2, h3⟩ := div_smaller hp hn h
      rw [if_pos h]
      have := ih (n / p) h1 (by omega) (by omega) (c + 1) (by omega) (by omega)
      have e : c + (((spl f (n / p) p).1 + 1 : Nat) : Int) = c + 1 + ((spl f (n / p) p).1 : Int) := by omega
      show Ev (fun k => spec_l1Valuation.l0 k n p c) (c + (((spl f (n / p) p).1 + 1 : Nat) : Int), (spl f (n / p) p).2)
      rw [e]
      refine Ev.step (fun k => ?_) this
      rw [spec_l1Valuation.l0, if_neg (by omega), if_pos (tm_zero.2 h), td_dvd h, w64 (by omega) (by omega), w64 (by omega) (by omega)]
    · rw [if_neg h]
      refine Ev.step (f := fun _ => some (c, n)) (fun k => ?_) ?_
      · rw [spec_l1Valuation.l0, if_neg (by omega), if_neg (fun e => h (tm_zero.1 e))]
      · have e : c + ((0 : Nat) : Int) = c := by omega
        show Ev _ (c + ((0 : Nat) : Int), n)
        rw [e]; exact Ev.now _
theorem spec_l1Valuation_ev {n p : Int} (hp : 2 ≤ p) (hp' : p ≤ 1000000000000000) (hn : n ≠ 0) (hb : n.natAbs ≤ 1000000000000000) : Ev (fun k => spec_l1Valuation.f k n p) ((vl n p : Int), un n p) := by
  have := spec_l1Valuation_l0 hp hp' n.natAbs n hn (Nat.le_refl _) hb 0 (by omega) (by omega)
  rw [Int.zero_add] at this
  exact this
theorem impl_split_l0 {p : Int} (hp : 2 ≤ p) (hp' : p ≤ 1000000000000000) : ∀ (f : Nat) (n : Int), n ≠ 0 → n.natAbs ≤ f → n.natAbs ≤ 1000000000000000 → ∀ c : Int, 0 ≤ c → c + f ≤ 2000000000000000 → Ev (fun k => impl_split.l0 k n p c) (c + (spl f n p).1, (spl f n p).2) := by
  intro f
  induction f with
  | zero => intro n hn hf; omega
  | succ f ih =>
    intro n hn hf hb c hc hcf
    rw [spl]
    by_cases h : n % p = 0
    · obtain ⟨h1, h2, h3⟩ := div_smaller hp hn h
      rw [if_pos h]
      have := ih (n / p) h1 (by omega) (by omega) (c + 1) (by omega) (by omega)
      have e : c + (((spl f (n / p) p).1 + 1 : Nat) : Int) = c + 1 + ((spl f (n / p) p).1 : Int) := by omega
      show Ev (fun k => impl_split.l0 k n p c) (c + (((spl f (n / p) p).1 + 1 : Nat) : Int), (spl f (n / p) p).2)
      rw [e]
      refine Ev.step (fun k => ?_) this
      rw [impl_split.l0, if_neg (by omega), if_pos (tm_zero.2 h), td_dvd h, w64 (by omega) (by omega), w64 (by omega) (by omega)]
    · rw [if_neg h]
      refine Ev.step (f := fun _ => some (c, n)) (fun k => ?_) ?_
      · rw [impl_split.l0, if_neg (by omega), if_neg (fun e => h (tm_zero.1 e))]
      · have e : c + ((0 : Nat) : Int) = c := by omega
        show Ev _ (c + ((0 : Nat) : Int), n)
        rw [e]; exact Ev.now _
theorem impl_split_ev {n p : Int} (hp : 2 ≤ p) (hp' : p ≤ 1000000000000000) (hn : n ≠ 0) (hb : n.natAbs ≤ 1000000000000000) : Ev (fun k => impl_split.f k n p) ((vl n p : Int), un n p) := by
  have := impl_split_l0 hp hp' n.natAbs n hn (Nat.le_refl _) hb 0 (by omega) (by omega)
  rw [Int.zero_add] at this
  exact this
theorem spec_l1Power_l0 {m : Int} (hm : 1 ≤ m) (hm' : m ≤ 5000) : ∀ (f : Nat) (b e o : Int), 0 ≤ e → e ≤ f → e ≤ 1000000000 → 0 ≤ b → b < m → 0 ≤ o → o < m → Ev (fun k => spec_l1Power.l0 k b e m o) (o * b ^ e.toNat % m) := by
  intro f
  induction f with
  | zero =>
    intro b e o he hf hE hb hb' ho ho'
    have : e = 0 := by omega
    subst this
    have e1 : o * b ^ (0 : Int).toNat % m = o := by
      show o * b ^ 0 % m = o
      rw [Int.pow_zero, Int.mul_one, Int.emod_eq_of_lt ho ho']
    rw [e1]
    refine Ev.step (f := fun _ => some o) (fun k => ?_) (Ev.now _)
    rw [spec_l1Power.l0, if_neg (by omega)]
  | succ f ih =>
    intro b e o he hf hE hb hb' ho ho'
    by_cases h0 : e = 0
    · subst h0
      have e1 : o * b ^ (0 : Int).toNat % m = o := by
        show o * b ^ 0 % m = o
        rw [Int.pow_zero, Int.mul_one, Int.emod_eq_of_lt ho ho']
      rw [e1]
      refine Ev.step (f := fun _ => some o) (fun k => ?_) (Ev.now _)
      rw [spec_l1Power.l0, if_neg (by omega)]
    · have bb := mul_bd hb (show b ≤ 5000 by omega) hb (show b ≤ 5000 by omega)
      have ob := mul_bd ho (show o ≤ 5000 by omega) hb (show b ≤ 5000 by omega)
      have r1 := emod_bd (b * b) (show 0 < m by omega)
      have r2 := emod_bd (o * b) (show 0 < m by omega)
      have hd : Int.tdiv e 2 = e / 2 := Int.tdiv_eq_ediv_of_nonneg he
      by_cases h1 : e % 2 = 1
      · have := ih (b * b % m) (e / 2) (o * b % m) (by omega) (by omega) (by omega) r1.1 r1.2 r2.1 r2.2
        have e1 : o * b % m * (b * b % m) ^ (e / 2).toNat % m = o * b ^ e.toNat % m := by
          have ee : e.toNat = 2 * (e / 2).toNat + 1 := by omega
          rw [Int.mul_emod, Int.emod_emod, emod_pow, ← Int.mul_emod, ee, Int.pow_succ, Int.pow_mul, pow_two']
          congr 1; grind
        rw [e1] at this
        refine Ev.step (fun k => ?_) this
        rw [spec_l1Power.l0, if_pos (by omega), tm he, if_pos h1, if_neg (by omega), w64 (x := b * b) (by omega) (by omega), tm bb.1, hd, w64 (x := e / 2) (by omega) (by omega), w64 (x := o * b) (by omega) (by omega), tm ob.1]
      · have := ih (b * b % m) (e / 2) o (by omega) (by omega) (by omega) r1.1 r1.2 ho ho'
        have e1 : o * (b * b % m) ^ (e / 2).toNat % m = o * b ^ e.toNat % m := by
          have ee : e.toNat = 2 * (e / 2).toNat := by omega
          rw [Int.mul_emod, emod_pow, ← Int.mul_emod, ee, Int.pow_mul, pow_two']
        rw [e1] at this
        refine Ev.step (fun k => ?_) this
        rw [spec_l1Power.l0, if_pos (by omega), tm he, if_neg h1, if_neg (by omega), w64 (x := b * b) (by omega) (by omega), tm bb.1, hd, w64 (x := e / 2) (by omega) (by omega)]
theorem spec_l1Power_ev {n e m : Int} (he : 0 ≤ e) (he' : e ≤ 1000000000) (hm : 1 ≤ m) (hm' : m ≤ 5000) : Ev (fun k => spec_l1Power.f k n e m) (n ^ e.toNat % m) := by
  unfold spec_l1Power.f
  simp only [if_neg (show ¬ m = 0 by omega), spec_l1Mod_eq (n := n) (show 0 < m by omega) (by omega), Option.bind_some]
  have r1 := emod_bd n (show 0 < m by omega)
  have r2 := emod_bd 1 (show 0 < m by omega)
  have := spec_l1Power_l0 hm hm' e.toNat (n % m) e (1 % m) he (by omega) he' r1.1 r1.2 r2.1 r2.2
  have e1 : 1 % m * (n % m) ^ e.toNat % m = n ^ e.toNat % m := by
    rw [Int.mul_emod, Int.emod_emod, emod_pow, ← Int.mul_emod, Int.one_mul]
  rw [e1] at this
  exact this
theorem impl_residue_l0 {n p : Int} (hp : Pr p) (h2 : p ≠ 2) (hp' : p ≤ 5000) (hn : ¬ p ∣ n) : ∀ (d : Nat) (x : Int), 1 ≤ x → x + d = p / 2 + 1 → (∀ y, 1 ≤ y → y < x → y * y % p ≠ n % p) → Ev (fun k => impl_residue.l0 k p (n % p) x) (leg n p) := by
  have h0 := hp.1
  intro d
  induction d with
  | zero =>
    intro x hx hd h
    have : leg n p = -1 := leg_neg hn (fun hr => by
      obtain ⟨y, h1, h3, h4⟩ := (isRes_half hp h2 hn).1 hr
      exact h y h1 (by omega) h4)
    rw [this]
    refine Ev.step (f := fun _ => some (-1)) (fun k => ?_) (Ev.now _)
    rw [impl_residue.l0, tdiv_half (by omega), w64 (by omega) (by omega), if_neg (by omega)]
  | succ d ih =>
    intro x hx hd h
    have hb := mul_bd (show 0 ≤ x by omega) (show x ≤ 5000 by omega) (show 0 ≤ x by omega) (show x ≤ 5000 by omega)
    by_cases e : x * x % p = n % p
    · have : leg n p = 1 := leg_one hn ((isRes_half hp h2 hn).2 ⟨x, hx, by omega, e⟩)
      rw [this]
      refine Ev.step (f := fun _ => some 1) (fun k => ?_) (Ev.now _)
      rw [impl_residue.l0, tdiv_half (by omega), w64 (x := p / 2) (by omega) (by omega), if_pos (by omega), if_neg (by omega), w64 (by omega) (by omega), tm hb.1, if_pos e]
    · refine Ev.step (fun k => ?_) (ih (x + 1) (by omega) (by omega) fun y h1 h3 => ?_)
      · rw [impl_residue.l0, tdiv_half (by omega), w64 (x := p / 2) (by omega) (by omega), if_pos (by omega), if_neg (by omega), w64 (x := x * x) (by omega) (by omega), tm hb.1, if_neg e, w64 (by omega) (by omega)]
      · by_cases e' : y = x
        · subst e'; exact e
        · exact h y h1 (by omega)
theorem impl_residue_ev {n p : Int} (hp : Pr p) (h2 : p ≠ 2) (hp' : p ≤ 5000) : Ev (fun k => impl_residue.f k n p) (leg n p) := by
  have h0 := hp.1
  unfold impl_residue.f
  simp only [impl_rest_eq (n := n) (show 0 < p by omega) (by omega), Option.bind_some]
  by_cases h : n % p = 0
  · simp only [if_pos h]; rw [leg_zero (Int.dvd_of_emod_eq_zero h)]; exact Ev.now _
  · simp only [if_neg h]
    exact impl_residue_l0 hp h2 hp' (fun hd => h (Int.emod_eq_zero_of_dvd hd)) (p / 2).toNat 1 (by omega) (by omega) (fun y h1 h3 => by omega)
theorem spec_l1Residue_ev {n p : Int} (hp : Pr p) (h2 : p ≠ 2) (hp' : p ≤ 5000) : Ev (fun k => spec_l1Residue.f k n p) (leg n p) := by
  have h0 := hp.1
  obtain ⟨h, hh, h1⟩ := odd_prime hp h2
  unfold spec_l1Residue.f
  have e : Int.tdiv (p - 1) 2 = (h : Int) := by
    rw [tdiv_half (by omega)]; omega
  simp only [w64 (x := p - 1) (by omega) (by omega), e, w64 (x := (h : Int)) (by omega) (by omega)]
  refine Ev.bind (spec_l1Power_ev (n := n) (e := h) (by omega) (by omega) (by omega) hp') ?_
  rw [Int.toNat_natCast]
  have hm : leg n p % p = n ^ h % p := Int.emod_eq_emod_iff_emod_sub_eq_zero.2 (Int.emod_eq_zero_of_dvd (leg_euler hp h hh n))
  rw [← hm]
  rcases leg_cases n p with h | h | h
  · rw [h, Int.zero_emod]; simp only [if_neg (show ¬ (0 : Int) = p - 1 by omega)]; exact Ev.now _
  · rw [h, Int.emod_eq_of_lt (by omega) (by omega)]; simp only [if_neg (show ¬ (1 : Int) = p - 1 by omega)]; exact Ev.now _
  · have e2 : (-1 : Int) % p = p - 1 := by
      rw [← Int.add_emod_right, Int.emod_eq_of_lt (by omega) (by omega)]; omega
    rw [h, e2]; simp only [if_true]; exact Ev.now _
theorem impl_nonResidue_l0 {p : Int} (hp : Pr p) (h2 : p ≠ 2) (hp' : p ≤ 5000) : ∀ (d : Nat) (x : Int), 2 ≤ x → x + d = nrOf p → Ev (fun k => impl_nonResidue.l0 k p x) (nrOf p) := by
  obtain ⟨n1, n2, n3, n4⟩ := nr_spec hp h2
  intro d
  induction d with
  | zero =>
    intro x hx hd
    have : x = nrOf p := by omega
    subst this
    refine Ev.step (f := fun k => (impl_residue.f k (nrOf p) p).bind fun t => if t = 1 then impl_nonResidue.l0 k p (wrap64 (nrOf p + 1)) else some (nrOf p)) (fun k => ?_) (Ev.bind (impl_residue_ev hp h2 hp') ?_)
    · rw [impl_nonResidue.l0]
    · rw [n3]; simp only [if_neg (show ¬ (-1 : Int) = 1 by omega)]; exact Ev.now _
  | succ d ih =>
    intro x hx hd
    refine Ev.step (f := fun k => (impl_residue.f k x p).bind fun t => if t = 1 then impl_nonResidue.l0 k p (wrap64 (x + 1)) else some x) (fun k => ?_) (Ev.bind (impl_residue_ev hp h2 hp') ?_)
    · rw [impl_nonResidue.l0]
    · rw [n4 x hx (by omega), w64 (by omega) (by omega)]; simp only [if_true]; exact ih (x + 1) (by omega) (by omega)
theorem impl_nonResidue_ev {p : Int} (hp : Pr p) (h2 : p ≠ 2) (hp' : p ≤ 5000) : Ev (fun k => impl_nonResidue.f k p) (nrOf p) := by
  obtain ⟨n1, n2, n3, n4⟩ := nr_spec hp h2
  exact impl_nonResidue_l0 hp h2 hp' (nrOf p - 2).toNat 2 (by omega) (by omega)
theorem impl_namesAt_ev {p : Int} (hp : Pl p) (hp' : p ≤ 5000) : Ev (fun k => impl_namesAt.f k p) (namesL p) := by
  unfold impl_namesAt.f namesL
  rcases pl_cases hp with rfl | rfl | ⟨hq, h0, h2⟩
  · simp only [if_true]; exact Ev.now _
  · simp only [if_neg (show ¬ (2 : Int) = 0 by omega), if_true]; exact Ev.now _
  · simp only [if_neg h0, if_neg h2]
    obtain ⟨n1, n2, n3, n4⟩ := nr_spec hq h2
    have := mul_bd (show 0 ≤ p by have := hq.1; omega) hp' (show 0 ≤ nrOf p by omega) (show nrOf p ≤ 5000 by omega)
    refine Ev.bind (impl_nonResidue_ev hq h2 hp') ?_
    simp only [w64 (x := p * nrOf p) (by omega) (by omega)]; exact Ev.now _
theorem impl_localSquare_ev {n p : Int} (hp : Pl p) (hp' : p ≤ 5000) (hn : n ≠ 0) (hb : n.natAbs ≤ 1000000000000000) : Ev (fun k => impl_localSquare.f k n p) (lsq n p) := by
  unfold impl_localSquare.f
  rcases pl_cases hp with rfl | rfl | ⟨hq, h0, h2⟩
  · simp only [if_true]; rw [lsq_0]; exact Ev.now _
  · simp only [if_neg (show ¬ (2 : Int) = 0 by omega)]
    rw [lsq_2]
    refine Ev.bind (impl_split_ev (by omega) (by omega) hn hb) ?_
    simp only [tm (show (0 : Int) ≤ (vl n 2 : Int) by omega)]
    by_cases h : vl n 2 % 2 = 0
    · simp only [if_pos (show (vl n 2 : Int) % 2 = 0 by omega), if_pos h, if_true]
      rw [impl_rest_eq (by omega) (by omega), Option.bind_some, beq_decide]; exact Ev.now _
    · simp only [if_neg (show ¬ (vl n 2 : Int) % 2 = 0 by omega), if_neg h]; exact Ev.now _
  · simp only [if_neg h0]
    rw [lsq_p h0 h2]
    refine Ev.bind (impl_split_ev hq.1 (by omega) hn hb) ?_
    simp only [tm (show (0 : Int) ≤ (vl n p : Int) by omega)]
    by_cases h : vl n p % 2 = 0
    · simp only [if_pos (show (vl n p : Int) % 2 = 0 by omega), if_pos h, if_neg h2]
      refine Ev.bind (impl_residue_ev hq h2 hp') ?_
      rw [beq_decide]; exact Ev.now _
    · simp only [if_neg (show ¬ (vl n p : Int) % 2 = 0 by omega), if_neg h]; exact Ev.now _
theorem spec_l2Square_ev {n p : Int} (hp : Pl p) (hp' : p ≤ 5000) (hn : n ≠ 0) (hb : n.natAbs ≤ 1000000000000000) : Ev (fun k => spec_l2Square.f k n p) (lsq n p) := by
  unfold spec_l2Square.f
  rcases pl_cases hp with rfl | rfl | ⟨hq, h0, h2⟩
  · simp only [if_true]; rw [lsq_0]; exact Ev.now _
  · simp only [if_neg (show ¬ (2 : Int) = 0 by omega)]
    rw [lsq_2]
    refine Ev.bind (spec_l1Valuation_ev (by omega) (by omega) hn hb) ?_
    simp only [tm (show (0 : Int) ≤ (vl n 2 : Int) by omega), if_true]
    by_cases h : vl n 2 % 2 = 0
    · simp only [if_pos (show (vl n 2 : Int) % 2 = 0 by omega), if_pos h]
      rw [spec_l1Mod_eq (by omega) (by omega), Option.bind_some, beq_decide]; exact Ev.now _
    · simp only [if_neg (show ¬ (vl n 2 : Int) % 2 = 0 by omega), if_neg h]; exact Ev.now _
  · simp only [if_neg h0]
    rw [lsq_p h0 h2]
    refine Ev.bind (spec_l1Valuation_ev hq.1 (by omega) hn hb) ?_
    simp only [tm (show (0 : Int) ≤ (vl n p : Int) by omega), if_neg h2]
    by_cases h : vl n p % 2 = 0
    · simp only [if_pos (show (vl n p : Int) % 2 = 0 by omega), if_pos h]
      refine Ev.bind (spec_l1Residue_ev hq h2 hp') ?_
      rw [beq_decide]; exact Ev.now _
    · simp only [if_neg (show ¬ (vl n p : Int) % 2 = 0 by omega), if_neg h]; exact Ev.now _
theorem impl_nameOf_l0 {n p : Int} (hp : Pl p) (hp' : p ≤ 5000) (hn : n ≠ 0) (hb : -25000000 ≤ n) (hb' : n ≤ 25000000) : ∀ (l : List Int) (pre : List Int), pre ++ l = namesL p → nm n p ∈ l → Ev (fun k => impl_nameOf.l0 k n p (namesL p) ((namesL p).length : Int) pre.length) (nm n p) := by
  intro l
  induction l with
  | nil => intro pre _ h; simp at h
  | cons m l ih =>
    intro pre e hm
    have hlen : (namesL p).length = pre.length + (l.length + 1) := by rw [← e]; simp
    have hl8 : (namesL p).length ≤ 8 := by
      unfold namesL; split
      · simp
      · split <;> simp
    have hrd : rd (namesL p) (pre.length : Int) = m := by
      unfold rd
      rw [← e, Int.toNat_natCast, List.getD_eq_getElem?_getD, List.getElem?_append_right (Nat.le_refl _)]
      simp
    have hmem : m ∈ namesL p := by rw [← e]; simp
    have hmb := names_bd hp hp' hmem
    have hm0 := mem_ne hp hmem
    have hprod := abs_mul_bd hb hb' hmb.1 hmb.2
    have hsq := impl_localSquare_ev (n := n * m) hp hp' (Int.mul_ne_zero hn hm0) (by omega)
    refine Ev.step (f := fun k => (impl_localSquare.f k (n * m) p).bind fun t => if t = true then some m else impl_nameOf.l0 k n p (namesL p) ((namesL p).length : Int) ((pre.length : Int) + 1)) (fun k => ?_) (Ev.bind hsq ?_)
    · rw [impl_nameOf.l0, if_pos (by omega), if_pos (by omega), if_pos (by omega), hrd, w64 (x := n * m) (by omega) (by omega), w64 (x := (pre.length : Int) + 1) (by omega) (by omega)]
    · by_cases h : m = nm n p
      · simp only [if_pos ((lsq_name hp hn hmem).2 h)]; rw [h]; exact Ev.now _
      · simp only [if_neg (fun h' => h ((lsq_name hp hn hmem).1 h'))]
        have := ih (pre ++ [m]) (by rw [← e]; simp) (by
          rcases List.mem_cons.1 hm with h' | h'
          · exact absurd h'.symm h
          · exact h')
        rw [List.length_append] at this
        exact this
theorem impl_nameOf_ev {n p : Int} (hp : Pl p) (hp' : p ≤ 5000) (hn : n ≠ 0) (hb : -25000000 ≤ n) (hb' : n ≤ 25000000) : Ev (fun k => impl_nameOf.f k n p) (nm n p) := by
  unfold impl_nameOf.f
  exact Ev.bind (impl_namesAt_ev hp hp') (impl_nameOf_l0 hp hp' hn hb hb' (namesL p) [] rfl (nm_mem hp hn))
theorem spec_l2Ok_ev (n p : Int) : Ev (fun k => spec_l2Ok.f k n p) (decide (n ≠ 0) && numB n && plB p) := by
  unfold spec_l2Ok.f
  simp only [spec_l1Number_eq, Option.bind_some]
  by_cases h : numB n = true
  · simp only [if_pos h]
    by_cases h0 : n = 0
    · simp only [if_pos h0]; simp [h0]; exact Ev.now _
    · simp only [if_neg h0]
      refine Ev.bind (spec_PlaceValid_ev p) ?_
      simp [h0, h]; exact Ev.now _
  · simp only [if_neg h]; simp [h]; exact Ev.now _
theorem spec_LocalSquare_ev (n p : Int) : Ev (fun k => spec_LocalSquare.f k n p) (lsqOf n p) := by
  unfold spec_LocalSquare.f
  refine Ev.bind (spec_l2Ok_ev n p) ?_
  unfold lsqOf
  by_cases h : (decide (n ≠ 0) && numB n && plB p) = true
  · simp only [if_pos h]
    rw [h, Bool.true_and]
    simp only [Bool.and_eq_true, decide_eq_true_eq] at h
    have hn := numB_true.1 h.1.2
    have hp := plB_pl h.2
    exact Ev.bind (spec_l2Square_ev hp.1 hp.2.2 h.1.1 (by omega)) (Ev.now _)
  · simp only [if_neg h]
    rw [Bool.not_eq_true] at h
    rw [h, Bool.false_and]; exact Ev.now _
theorem impl_LocalSquare_ev (n p : Int) : Ev (fun k => impl_LocalSquare.f k n p) (lsqOf n p) := by
  unfold impl_LocalSquare.f lsqOf
  simp only [impl_isNumber_eq, Option.bind_some]
  by_cases h0 : n = 0
  · simp only [if_pos h0]; simp [h0]; exact Ev.now _
  · simp only [if_neg h0]
    by_cases h : numB n = true
    · simp only [if_pos h]
      refine Ev.bind (impl_PlaceValid_ev p) ?_
      by_cases hpl : plB p = true
      · simp only [if_pos hpl]
        have hn := numB_true.1 h
        have hp := plB_pl hpl
        refine Ev.bind (impl_localSquare_ev hp.1 hp.2.2 h0 (by omega)) ?_
        simp [h0, h, hpl]; exact Ev.now _
      · simp only [if_neg hpl]; simp [hpl]; exact Ev.now _
    · simp only [if_neg h]; simp [h]; exact Ev.now _
theorem impl_LocalName_ev (n p : Int) : Ev (fun k => impl_LocalName.f k n p) (nameOf n p) := by
  unfold impl_LocalName.f nameOf
  simp only [impl_isNumber_eq, Option.bind_some]
  by_cases h0 : n = 0
  · simp only [if_pos h0]; rw [if_neg (fun h => h.1 h0)]; exact Ev.now _
  · simp only [if_neg h0]
    by_cases h : numB n = true
    · simp only [if_pos h]
      refine Ev.bind (impl_PlaceValid_ev p) ?_
      by_cases hpl : plB p = true
      · simp only [if_pos hpl]; rw [if_pos ⟨h0, h, hpl⟩]
        have hn := numB_true.1 h
        have hp := plB_pl hpl
        exact Ev.bind (impl_nameOf_ev hp.1 hp.2.2 h0 (by omega) (by omega)) (Ev.now _)
      · simp only [if_neg hpl]; rw [if_neg (fun h => hpl h.2.2)]; exact Ev.now _
    · simp only [if_neg h]; rw [if_neg (fun h' => h h'.2.1)]; exact Ev.now _
theorem rd_pre (p : List Int) (a : Int) (l : List Int) : rd (p ++ a :: l) (p.length : Int) = a := by
  unfold rd
  rw [Int.toNat_natCast, List.getD_eq_getElem?_getD, List.getElem?_append_right (Nat.le_refl _)]
  simp
theorem set_pre (p : List Int) (a : Int) (l : List Int) (c : Int) : (p ++ a :: l).set ((p.length : Int)).toNat c = p ++ c :: l := by
  rw [Int.toNat_natCast, List.set_append_right _ _ (Nat.le_refl _)]
  simp
theorem spec_l6Open_eq {l : List Int} (h : ∀ x ∈ l, (Lit.int .u8 x).wf = true) : ∃ b, GB b ∧ spec_l6Open.f l = some (b, 0) := by
  unfold spec_l6Open.f
  by_cases h1 : (l.length : Int) > 2000
  · rw [if_pos h1, if_pos (by omega)]
    exact ⟨l.take 2000, ⟨by simp; omega, fun x hx => u8_bd (h x (List.mem_of_mem_take hx))⟩, rfl⟩
  · rw [if_neg h1]
    exact ⟨l, ⟨by omega, fun x hx => u8_bd (h x hx)⟩, rfl⟩
theorem rd_bd {b : List Int} (hb : GB b) (i : Int) : 0 ≤ rd b i ∧ rd b i ≤ 255 := by
  unfold rd
  rw [List.getD_eq_getElem?_getD]
  cases h : b[i.toNat]? with
  | none => simp
  | some x => exact hb.2 x (List.mem_of_getElem? h)
theorem pick_ev {b : List Int} (hb : GB b) {p n : Int} (hp : 0 ≤ p) (hp' : p ≤ 1000) (hn : 1 ≤ n) (hn' : n ≤ 1000) : ∃ v, 0 ≤ v ∧ v < n ∧ Ev (fun k => spec_l6Rd_pick.f k b p n) (v, p + 1) := by
  have hl := hb.1
  have e1 : wrap64 (p + 1) = p + 1 := w64 (by omega) (by omega)
  have e2 : wrap64 (p + 1 - 1) = p := by rw [w64 (by omega) (by omega)]; omega
  unfold spec_l6Rd_pick.f
  simp only [if_neg (show ¬ n < 1 by omega), e1]
  by_cases h0 : b.length = 0
  · refine ⟨0, by omega, by omega, Ev.step (f := fun _ => some (0, p + 1)) (fun k => ?_) (Ev.now _)⟩
    rw [spec_l6Rd_pick.j0, if_pos (by simp [h0])]
  · have hL : ((b.length : Int) == 0) = false := by rw [beq_eq_false_iff_ne]; omega
    rw [hL]
    by_cases h1 : p < (b.length : Int)
    · have hr := rd_bd hb p
      have m := emod_bd (rd b p) (show 0 < n by omega)
      refine ⟨rd b p % n, m.1, m.2, Ev.step (f := fun _ => some (rd b p % n, p + 1)) (fun k => ?_) (Ev.now _)⟩
      rw [spec_l6Rd_pick.j0, if_neg (by simp), e2, if_pos h1, if_pos hp, if_neg (by omega), w64 (x := rd b p) (by omega) (by omega), tm hr.1]
    · have m1 := emod_bd p (show (0 : Int) < b.length by omega)
      have t1 : Int.tmod p (b.length : Int) = p % (b.length : Int) := tm hp
      have e7 : wrap64 (wrap64 (p * 7) + 3) = p * 7 + 3 := by rw [w64 (x := p * 7) (by omega) (by omega), w64 (by omega) (by omega)]
      have t2 : Int.tmod (p * 7 + 3) (b.length : Int) = (p * 7 + 3) % (b.length : Int) := tm (by omega)
      have m2 := emod_bd (p * 7 + 3) (show (0 : Int) < b.length by omega)
      have r1 := rd_bd hb (p % (b.length : Int))
      have r2 := rd_bd hb ((p * 7 + 3) % (b.length : Int))
      have d1 : Int.tdiv p (b.length : Int) = p / (b.length : Int) := Int.tdiv_eq_ediv_of_nonneg hp
      have d2 : 0 ≤ p / (b.length : Int) ∧ p / (b.length : Int) ≤ p := ⟨Int.ediv_nonneg hp (by omega), Int.ediv_le_self _ hp⟩
      have key : ∃ v, 0 ≤ v ∧ v < n ∧ ∀ k, spec_l6Rd_pick.j0 (k + 1) n false b (p + 1) = some (v, p + 1) := by
        generalize hq1 : rd b (p % (b.length : Int)) = q1 at r1
        generalize hq2 : rd b ((p * 7 + 3) % (b.length : Int)) = q2 at r2
        generalize hq3 : p / (b.length : Int) = q3 at d1 d2
        have hx0 : 0 ≤ Go.bits .xor .i64 (q1 * 131 + q2 * 1117 + p * 29 + q3 * 53) ((q1 * 131 + q2 * 1117 + p * 29 + q3 * 53) / 64) := xor_nonneg (by omega) (by omega) (by omega) (by omega)
        refine ⟨_, (emod_bd (Go.bits .xor .i64 (q1 * 131 + q2 * 1117 + p * 29 + q3 * 53) ((q1 * 131 + q2 * 1117 + p * 29 + q3 * 53) / 64)) (show 0 < n by omega)).1, (emod_bd _ (show 0 < n by omega)).2, fun k => ?_⟩
        rw [spec_l6Rd_pick.j0, if_neg (by simp), e2, if_neg h1, if_neg (by omega), t1, if_pos m1.1, if_pos m1.2, e7, t2, if_pos m2.1, if_pos m2.2, if_neg (by omega), hq1, hq2, d1,
          w64 (x := q1) (by omega) (by omega), w64 (x := q2) (by omega) (by omega), w64 (x := q1 * 131) (by omega) (by omega), w64 (x := q2 * 1117) (by omega) (by omega), w64 (x := q1 * 131 + q2 * 1117) (by omega) (by omega),
          w64 (x := p * 29) (by omega) (by omega), w64 (x := q1 * 131 + q2 * 1117 + p * 29) (by omega) (by omega), w64 (x := q3) (by omega) (by omega), w64 (x := q3 * 53) (by omega) (by omega),
          w64 (x := q1 * 131 + q2 * 1117 + p * 29 + q3 * 53) (by omega) (by omega),
          Int.tdiv_eq_ediv_of_nonneg (a := q1 * 131 + q2 * 1117 + p * 29 + q3 * 53) (by omega), w64 (x := (q1 * 131 + q2 * 1117 + p * 29 + q3 * 53) / 64) (by omega) (by omega), tm hx0]
      obtain ⟨v, h2, h3, h4⟩ := key
      exact ⟨v, h2, h3, Ev.step (f := fun _ => some (v, p + 1)) h4 (Ev.now _)⟩
theorem l91Number_ev {b : List Int} (hb : GB b) {p : Int} (hp : 0 ≤ p) (hp' : p ≤ 500) : ∃ n q, DN n ∧ p ≤ q ∧ q ≤ p + 4 ∧ Ev (fun k => spec_l91Number.f k b p) (n, q) := by
  unfold spec_l91Number.f
  obtain ⟨v, a1, a2, a3⟩ := pick_ev hb (p := p) (n := 30) hp (by omega) (by omega) (by omega)
  by_cases h : v = 0
  · obtain ⟨u, b1, b2, b3⟩ := pick_ev hb (p := p + 1) (n := 6) (by omega) (by omega) (by omega) (by omega)
    have key : DN (rd [0, 5000, 5001, (-5001), 4096, 3969] u) := by
      have : u = 0 ∨ u = 1 ∨ u = 2 ∨ u = 3 ∨ u = 4 ∨ u = 5 := by omega
      rcases this with rfl | rfl | rfl | rfl | rfl | rfl <;> simp [DN, rd]
    refine ⟨_, p + 2, key, by omega, by omega, Ev.bind a3 ?_⟩
    simp only [if_pos h, Option.bind_some]
    refine Ev.bind b3 ?_
    simp only [if_pos b1]
    rw [if_pos (by simp; omega), show p + 1 + 1 = p + 2 by omega]
    exact Ev.now _
  · obtain ⟨u, b1, b2, b3⟩ := pick_ev hb (p := p + 1) (n := 40) (by omega) (by omega) (by omega) (by omega)
    obtain ⟨x, c1, c2, c3⟩ := pick_ev hb (p := p + 1 + 1) (n := 3) (by omega) (by omega) (by omega) (by omega)
    obtain ⟨s, d1, d2, d3⟩ := pick_ev hb (p := p + 1 + 1 + 1) (n := 2) (by omega) (by omega) (by omega) (by omega)
    have hux : 0 ≤ u * (1 + x) ∧ u * (1 + x) ≤ 117 := by
      have : x = 0 ∨ x = 1 ∨ x = 2 := by omega
      rcases this with rfl | rfl | rfl <;> omega
    by_cases hs : s = 0
    · refine ⟨-(1 + u * (1 + x)), p + 4, ?_, by omega, by omega, Ev.bind a3 ?_⟩
      · unfold DN; omega
      simp only [if_neg h]
      refine Ev.bind b3 (Ev.bind c3 (Ev.bind d3 ?_))
      simp only [if_pos hs]
      rw [w64 (x := 1 + x) (by omega) (by omega), w64 (x := u * (1 + x)) (by omega) (by omega), w64 (x := 1 + u * (1 + x)) (by omega) (by omega), w64 (x := -(1 + u * (1 + x))) (by omega) (by omega), show p + 1 + 1 + 1 + 1 = p + 4 by omega]
      exact Ev.now _
    · refine ⟨1 + u * (1 + x), p + 4, ?_, by omega, by omega, Ev.bind a3 ?_⟩
      · unfold DN; omega
      simp only [if_neg h]
      refine Ev.bind b3 (Ev.bind c3 (Ev.bind d3 ?_))
      simp only [if_neg hs]
      rw [w64 (x := 1 + x) (by omega) (by omega), w64 (x := u * (1 + x)) (by omega) (by omega), w64 (x := 1 + u * (1 + x)) (by omega) (by omega), show p + 1 + 1 + 1 + 1 = p + 4 by omega]
      exact Ev.now _
theorem l91Prime_ev {b : List Int} (hb : GB b) {p : Int} (hp : 0 ≤ p) (hp' : p ≤ 500) : ∃ n q, DP n ∧ p ≤ q ∧ q ≤ p + 4 ∧ Ev (fun k => spec_l91Prime.f k b p) (n, q) := by
  unfold spec_l91Prime.f
  obtain ⟨v, a1, a2, a3⟩ := pick_ev hb (p := p) (n := 24) hp (by omega) (by omega) (by omega)
  by_cases h : v = 0
  · obtain ⟨u, b1, b2, b3⟩ := pick_ev hb (p := p + 1) (n := 6) (by omega) (by omega) (by omega) (by omega)
    have key : DP (rd [0, 1, 4, (-3), 97, 9] u) := by
      have : u = 0 ∨ u = 1 ∨ u = 2 ∨ u = 3 ∨ u = 4 ∨ u = 5 := by omega
      rcases this with rfl | rfl | rfl | rfl | rfl | rfl <;> simp [DP, rd]
    refine ⟨_, p + 1 + 1, key, by omega, by omega, Ev.bind a3 ?_⟩
    simp only [if_pos h, Option.bind_some]
    refine Ev.bind b3 ?_
    simp only [if_pos b1]
    rw [if_pos (by simp; omega)]
    exact Ev.now _
  · obtain ⟨u, b1, b2, b3⟩ := pick_ev hb (p := p + 1) (n := 8) (by omega) (by omega) (by omega) (by omega)
    have key : DP (rd [2, 3, 5, 7, 11, 13, 3, 2] u) := by
      have : u = 0 ∨ u = 1 ∨ u = 2 ∨ u = 3 ∨ u = 4 ∨ u = 5 ∨ u = 6 ∨ u = 7 := by omega
      rcases this with rfl | rfl | rfl | rfl | rfl | rfl | rfl | rfl <;> simp [DP, rd]
    refine ⟨_, p + 1 + 1, key, by omega, by omega, Ev.bind a3 ?_⟩
    simp only [if_neg h, Option.bind_some]
    refine Ev.bind b3 ?_
    simp only [if_pos b1]
    rw [if_pos (by simp; omega)]
    exact Ev.now _
theorem l91Place_ev {b : List Int} (hb : GB b) {p : Int} (hp : 0 ≤ p) (hp' : p ≤ 400) : ∃ n q, DP n ∧ p ≤ q ∧ q ≤ p + 5 ∧ Ev (fun k => spec_l91Place.f k b p) (n, q) := by
  unfold spec_l91Place.f
  obtain ⟨v, a1, a2, a3⟩ := pick_ev hb (p := p) (n := 5) hp (by omega) (by omega) (by omega)
  by_cases h : v = 0
  · refine ⟨0, p + 1, by simp [DP], by omega, by omega, Ev.bind a3 ?_⟩
    simp only [if_pos h]; exact Ev.now _
  · obtain ⟨n, q, b1, b2, b3, b4⟩ := l91Prime_ev hb (p := p + 1) (by omega) (by omega)
    refine ⟨n, q, b1, by omega, by omega, Ev.bind a3 ?_⟩
    simp only [if_neg h]
    exact Ev.bind b4 (Ev.now _)
theorem l91Local_ev {b : List Int} (hb : GB b) {p : Int} (hp : 0 ≤ p) (hp' : p ≤ 300) : ∃ n pl q, DL n ∧ DP pl ∧ p ≤ q ∧ q ≤ p + 12 ∧ Ev (fun k => spec_l91Local.f k b p) (n, pl, q) := by
  unfold spec_l91Local.f
  obtain ⟨n, q, n1, n2, n3, n4⟩ := l91Number_ev hb hp (by omega)
  obtain ⟨v, a1, a2, a3⟩ := pick_ev hb (p := q) (n := 3) (by omega) (by omega) (by omega) (by omega)
  by_cases h : v = 0
  · obtain ⟨x, b1, b2, b3⟩ := pick_ev hb (p := q + 1) (n := 9) (by omega) (by omega) (by omega) (by omega)
    obtain ⟨y, c1, c2, c3⟩ := pick_ev hb (p := q + 1 + 1) (n := 3) (by omega) (by omega) (by omega) (by omega)
    obtain ⟨pl, r, d1, d2, d3, d4⟩ := l91Place_ev hb (p := q + 1 + 1 + 1) (by omega) (by omega)
    have hx := mul_bd (show 0 ≤ 1 + x by omega) (show 1 + x ≤ 9 by omega) (show 0 ≤ 1 + x by omega) (show 1 + x ≤ 9 by omega)
    have hx1 : 1 ≤ (1 + x) * (1 + x) := by have := Int.mul_le_mul (show (1 : Int) ≤ 1 + x by omega) (show (1 : Int) ≤ 1 + x by omega) (by omega) (by omega); omega
    generalize hxx : (1 + x) * (1 + x) = s at hx hx1
    have hs : 1 ≤ s * (1 + y * 8) ∧ s * (1 + y * 8) ≤ 1377 := by
      have : y = 0 ∨ y = 1 ∨ y = 2 := by omega
      rcases this with rfl | rfl | rfl <;> omega
    refine ⟨s * (1 + y * 8), pl, r, Or.inr hs, d1, by omega, by omega, Ev.bind n4 (Ev.bind a3 ?_)⟩
    simp only [if_pos h]
    refine Ev.bind b3 (Ev.bind c3 (Ev.bind d4 ?_))
    rw [w64 (x := 1 + x) (by omega) (by omega), hxx, w64 (x := s) (by omega) (by omega), w64 (x := y * 8) (by omega) (by omega), w64 (x := 1 + y * 8) (by omega) (by omega), w64 (x := s * (1 + y * 8)) (by omega) (by omega)]
    exact Ev.now _
  · obtain ⟨pl, r, d1, d2, d3, d4⟩ := l91Place_ev hb (p := q + 1) (by omega) (by omega)
    refine ⟨n, pl, r, Or.inl n1, d1, by omega, by omega, Ev.bind n4 (Ev.bind a3 ?_)⟩
    simp only [if_neg h]
    exact Ev.bind d4 (Ev.now _)
theorem impl_LocalRoot_l0 {n p c : Int} (hn : numB n = true) (hp : prB p = true) (hc : 1 ≤ c) : ∀ (d i : Nat), i + d = 13 → (i : Int) ≤ c → p ^ i ≤ 5000 → Ev (fun k => impl_LocalRoot.l0 k n p (p ^ i) c i) (lrootOf n p c) := by
  have hpp := prB_true.1 hp
  have h2 := hpp.1.1
  intro d
  induction d with
  | zero =>
    intro i hd hi h5
    have h1 := pow_ge_two h2 i
    have h3 : (2 : Int) ^ i = 8192 := by have : i = 13 := by omega
                                         subst this; decide
    omega
  | succ d ih =>
    intro i hd hi h5
    have hpos := pow_pos' (show 1 ≤ p by omega) i
    have m := mul_bd (show 0 ≤ p ^ i by omega) h5 (show 0 ≤ p by omega) hpp.2
    have hsucc : p ^ (i + 1) = p ^ i * p := Int.pow_succ ..
    by_cases hlt : (i : Int) < c
    · by_cases hbig : p ^ i * p > 5000
      · have : lrootOf n p c = (0, false) := by
          unfold lrootOf
          rw [if_neg (fun g => ?_)]
          have := pow_mono (show 1 ≤ p by omega) (show i + 1 ≤ c.toNat by omega)
          omega
        rw [this]
        refine Ev.step (f := fun _ => some (0, false)) (fun k => ?_) (Ev.now _)
        rw [impl_LocalRoot.l0, if_pos hlt, w64 (x := p ^ i * p) (by omega) (by omega), if_pos hbig]
      · refine Ev.step (fun k => ?_) (ih (i + 1) (by omega) (by omega) (by omega))
        rw [impl_LocalRoot.l0, if_pos hlt, w64 (x := p ^ i * p) (by omega) (by omega), if_neg hbig, w64 (x := (i : Int) + 1) (by omega) (by omega), ← hsucc]
        rfl
    · have e : c.toNat = i := by omega
      have : lrootOf n p c = two (rootS n (p ^ i)) := by
        unfold lrootOf
        rw [if_pos ⟨hn, hp, by omega, by omega, by rw [e]; exact h5⟩, e]
      rw [this]
      refine Ev.step (f := fun k => (impl_rootMod.f k n (p ^ i)).bind fun bt => some (bt.1, bt.2)) (fun k => ?_) (Ev.bind (impl_rootMod_ev (by omega) h5) (Ev.now _))
      rw [impl_LocalRoot.l0, if_neg hlt]
theorem impl_LocalRoot_no (n p c : Int) : Ev (fun k => impl_LocalRoot.j0 k n p c true) (0, false) := by
  refine Ev.step (f := fun _ => some (0, false)) (fun k => ?_) (Ev.now _)
  rw [impl_LocalRoot.j0, if_pos rfl]
theorem impl_LocalRoot_ev (n p c : Int) : Ev (fun k => impl_LocalRoot.f k n p c) (lrootOf n p c) := by
  unfold impl_LocalRoot.f
  simp only [impl_isNumber_eq, Option.bind_some]
  by_cases h : numB n = true
  · simp only [if_pos h]
    refine Ev.bind (impl_PrimeIs_ev p) ?_
    by_cases hp : prB p = true
    · simp only [if_pos hp]
      by_cases hc : c < 1
      · have : lrootOf n p c = (0, false) := by unfold lrootOf; rw [if_neg (by omega)]
        rw [decide_eq_true hc, this]; exact impl_LocalRoot_no ..
      · rw [decide_eq_false hc]
        refine Ev.step (fun k => by rw [impl_LocalRoot.j0, if_neg (by simp)]) ?_
        have := impl_LocalRoot_l0 h hp (show 1 ≤ c by omega) 13 0 (by omega) (by omega) (by rw [Int.pow_zero]; omega)
        rw [Int.pow_zero] at this
        exact this
    · have : lrootOf n p c = (0, false) := by unfold lrootOf; rw [if_neg (fun g => hp g.2.1)]
      simp only [if_neg hp]; rw [this]; exact impl_LocalRoot_no ..
  · have : lrootOf n p c = (0, false) := by unfold lrootOf; rw [if_neg (fun g => h g.1)]
    simp only [if_neg h]; rw [this]; exact impl_LocalRoot_no ..
theorem DrawLocalSquare_ev {l : List Int} (h : ∀ x ∈ l, (Lit.int .u8 x).wf = true) : ∃ n p, DL n ∧ DP p ∧ Ev (fun k => spec_DrawLocalSquare.f k l) (n, p) := by
  obtain ⟨bs, hb, e⟩ := spec_l6Open_eq h
  unfold spec_DrawLocalSquare.f
  simp only [e, Option.bind_some]
  obtain ⟨n, p, q, a1, a2, a3, a4, a5⟩ := l91Local_ev hb (p := 0) (by omega) (by omega)
  exact ⟨n, p, a1, a2, Ev.bind a5 (Ev.now _)⟩
theorem FnLocalSquare : laws_FnLocalSquare.Pure := by
  intro l m _ _ hl _ _ _
  refine Ev.rounds ?_
  unfold laws_FnLocalSquare.f
  have stop : ∀ (r : List Int), Ev (fun k => laws_FnLocalSquare.j0 k l r true) true := fun r =>
    Ev.step (f := fun _ => some true) (fun k => by rw [laws_FnLocalSquare.j0, if_pos rfl]) (Ev.now _)
  by_cases hlen : (l.length : Int) > 1048576
  · simp only [if_pos hlen]; exact stop m
  · simp only [if_neg hlen]
    by_cases hlm : (m.length : Int) > 1048576
    · rw [decide_eq_true hlm]; exact stop m
    · rw [decide_eq_false hlm]
      refine Ev.step (fun k => by rw [laws_FnLocalSquare.j0, if_neg (by simp)]) ?_
      obtain ⟨n, p, dn, dp, hev⟩ := DrawLocalSquare_ev hl
      refine Ev.bind hev (Ev.bind (impl_LocalSquare_ev n p) (Ev.bind (spec_LocalSquare_ev n p) ?_))
      simp only [bne_self_eq_false, Bool.false_eq_true, if_false]
      by_cases hs : lsqOf n p = true
      · rw [hs]
        have h := hs
        unfold lsqOf at h
        simp only [Bool.and_eq_true, decide_eq_true_eq] at h
        obtain ⟨⟨⟨hn, nb⟩, hpB⟩, hq⟩ := h
        have hp := plB_pl hpB
        have hnn := numB_true.1 nb
        have hk := emod_bd (m.length : Int) (show (0 : Int) < 6 by omega)
        obtain ⟨j, hj⟩ : ∃ j, j = (m.length : Int) % 6 := ⟨_, rfl⟩
        rw [← hj] at hk
        have m1 := abs_mul_bd hnn.1 hnn.2 (show -6 ≤ 1 + j by omega) (show 1 + j ≤ 6 by omega)
        have m2 := abs_mul_bd m1.1 m1.2 (show -6 ≤ 1 + j by omega) (show 1 + j ≤ 6 by omega)
        refine Ev.step (fun k => by rw [laws_FnLocalSquare.j1, if_neg (by simp), ← hj, w64 (x := n * (1 + j)) (by omega) (by omega), w64 (x := n * (1 + j) * (1 + j)) (by omega) (by omega)]) ?_
        have h1 : nameOf n p = (nm n p, true) := by unfold nameOf; rw [if_pos ⟨hn, nb, hpB⟩]
        have e1 : nm n p = 1 := (nm_eq_one hp.1 hn).2 hq
        have hroot : p ≠ 0 → p ≤ 13 → (lrootOf n p 3).2 = true := by
          intro h0 h13
          have hpr : Pr p := by rcases hp.1 with h | h
                                · exact absurd h h0
                                · exact h
          have hpB' : prB p = true := prB_true.2 ⟨hpr, hp.2.2⟩
          have h2 := hpr.1
          obtain ⟨x, hx⟩ := lsq_root hpr hn hq 3 (Or.inr (by omega))
          have hpos := pow_pos' (show 1 ≤ p by omega) 3
          have c3 : p ^ 3 = p * p * p := by rw [Int.pow_succ, Int.pow_succ, Int.pow_succ, Int.pow_zero, Int.one_mul]
          have b1 := mul_bd (show 0 ≤ p by omega) h13 (show 0 ≤ p by omega) h13
          have b2 := mul_bd b1.1 b1.2 (show 0 ≤ p by omega) h13
          obtain ⟨r, hr⟩ := rootS_some hpos hx
          unfold lrootOf
          rw [show (3 : Int).toNat = 3 from rfl, if_pos ⟨nb, hpB', by omega, by omega, by omega⟩, hr]; rfl
        have hsz : laws_sizeOf.f (n * (1 + j) * (1 + j)) = some ((n * (1 + j) * (1 + j)).natAbs : Int) := by
          unfold laws_sizeOf.f mx
          rw [w64 (x := -(n * (1 + j) * (1 + j))) (by omega) (by omega)]
          congr 1
          split <;> omega
        refine Ev.bind (impl_LocalName_ev n p) (Ev.bind (impl_LocalRoot_ev n p 3) ?_)
        rw [h1]
        simp only [if_true, if_pos e1, hsz, Option.bind_some]
        have fin : Ev (fun _ : Nat => if p = 0 then some true else if p > 13 then some true else some (lrootOf n p 3).2) true := by
          by_cases h0 : p = 0
          · simp only [if_pos h0]; exact Ev.now _
          · by_cases h13 : p > 13
            · simp only [if_neg h0, if_pos h13]; exact Ev.now _
            · simp only [if_neg h0, if_neg h13]; rw [hroot h0 (by omega)]; exact Ev.now _
        by_cases hbig : ((n * (1 + j) * (1 + j)).natAbs : Int) > 5000
        · simp only [if_pos hbig]; exact fin
        · simp only [if_neg hbig]
          refine Ev.bind (impl_LocalSquare_ev _ p) ?_
          have hne : n * (1 + j) * (1 + j) ≠ 0 := Int.mul_ne_zero (Int.mul_ne_zero hn (by omega)) (by omega)
          have : lsqOf (n * (1 + j) * (1 + j)) p = true := by
            unfold lsqOf
            rw [decide_eq_true hne, numB_true.2 ⟨by omega, by omega⟩, hpB, Int.mul_assoc, lsq_mul_sq hp.1 hn (by omega), hq]; rfl
          rw [this]
          simp only [if_true]
          exact fin
      · rw [Bool.not_eq_true] at hs
        rw [hs]
        refine Ev.step (f := fun _ => some true) (fun k => ?_) (Ev.now _)
        rw [laws_FnLocalSquare.j1, if_pos (by simp), beq_self_eq_true]

end Go.Proofs.Ytpcocojkhcokmaa.Pure
