/- At every draw the program's ResidueIs is the reference's; it is not -1 exactly if there is a root, it multiplies, and it is 0 exactly if the prime divides.
No condition beyond the given statement. The printed functions are tied to plain arithmetic one by one; the law follows at the end. -/
import Derived.Test.YtnbjnlbaoogbmaaWSized
import Derived.Test.YtnbjnlbaoogbmaaPFnResiduex3
import Derived.Test.YtnbjnlbaoogbmaaM9
set_option linter.unusedVariables false
set_option linter.unusedSimpArgs false
namespace Go.Proofs.Ytnbjnlbaoogbmaa
open Go.ChangeShapes Go.WideShapes
/-- The words' lemma on the length of a slice, under the name by which the row of this law calls it. -/
theorem PrintWords.sized_ints {H : Type} {enc : TypeId × Value → H} {P : Program} {W : World} {base : Nat} {spare : Nat → Bool} {held : Bool} {t e : TypeId} {k : IntKind} {a : Option Addr} {len cap : Nat} {d : DataW H} {ps : List MemPlace} {ts : List TypeId} {ds : List (DataW H)} {j : Nat}
    (hsz : (DataW.weightsEach P ts ds).all (· ≤ reachBytes) = true) (ht : ts[j]? = some t) (hd : ds[j]? = some d) (hu : P.underlying t = some (.slice e)) (he : P.underlying e = some (.int k)) (hc : P.cellsOf e = 1) {B : Nat} (hB : P.bytesOf e = B)
    (h : DataW.Trod enc P W base spare held t (.slice a len cap) d ps) : len * B ≤ 140737488351232 :=
  Go.Proofs.YtnbjnlbaoogbmaaW.PrintWords.sized_ints hsz ht hd hu he hc hB h
end Go.Proofs.Ytnbjnlbaoogbmaa
namespace Go.Proofs.Ytnbjnlbaoogbmaa.Pure
open Go.RowKit Go.Proofs.Ytnbjnlbaoogbmaa.PFnResidue Go.Proofs.YtnbjnlbaoogbmaaW.PrintWords Go.Proofs.YtnbjnlbaoogbmaaW.PrintLast Go.Proofs.YtnbjnlbaoogbmaaW.PrintMore Go.Proofs.LG

theorem spec_l6In_eq (a b c : Int) : spec_l6In.f a b c = some (decide (b ≤ a ∧ a ≤ c)) := by
  unfold spec_l6In.f
  by_cases h : a ≥ b
  · rw [if_pos h]; congr 1; rw [decide_eq_decide]; omega
  · rw [if_neg h]; congr 1; symm; rw [decide_eq_false_iff_not]; omega
theorem spec_l1Number_eq (a : Int) : spec_l1Number.f a = some (numB a) := by
  unfold spec_l1Number.f; rw [spec_l6In_eq]; rfl
theorem impl_isNumber_eq (a : Int) : impl_isNumber.f a = some (numB a) := by
  unfold impl_isNumber.f numB
  by_cases h : a ≥ -5000
  · rw [if_pos h]; congr 1; rw [decide_eq_decide]; omega
  · rw [if_neg h]; congr 1; symm; rw [decide_eq_false_iff_not]; omega
theorem spec_PrimeIs_l0 {n : Int} (h2 : 2 ≤ n) (hn : n ≤ 5000) : ∀ (d : Nat) (x : Int), 2 ≤ x → x ≤ n → n - x ≤ d → (∀ y, 2 ≤ y → y < x → ¬ y ∣ n) → Ev (fun k => spec_PrimeIs.l0 k n x) (prB n) := by
  intro d
  induction d with
  | zero =>
    intro x hx hxn hd h
    have := sq_gt hx (show n ≤ x by omega)
    have hb := mul_bd (show 0 ≤ x by omega) (show x ≤ 5000 by omega) (show 0 ≤ x by omega) (show x ≤ 5000 by omega)
    refine Ev.step (f := fun _ => some true) (fun k => ?_) ?_
    · rw [spec_PrimeIs.l0, w64 (by omega) (by omega), if_neg (by omega)]
    · rw [prB_true.2 ⟨pr_of_none h2 x (by omega) (by omega) h, hn⟩]; exact Ev.now _
  | succ d ih =>
    intro x hx hxn hd h
    have hb := mul_bd (show 0 ≤ x by omega) (show x ≤ 5000 by omega) (show 0 ≤ x by omega) (show x ≤ 5000 by omega)
    by_cases hle : x * x ≤ n
    · by_cases hdv : x ∣ n
      · have hlt : x < n := by
          have := sq_gt hx (Int.le_refl x); omega
        refine Ev.step (f := fun _ => some false) (fun k => ?_) ?_
        · rw [spec_PrimeIs.l0, w64 (by omega) (by omega), if_pos hle, if_neg (by omega), if_pos (Int.tmod_eq_zero_of_dvd hdv)]
        · rw [prB_false.2 fun hp => hp.1.2 x hx hlt hdv]; exact Ev.now _
      · have hlt : x < n := by
          have := sq_gt hx (Int.le_refl x); omega
        refine Ev.step (f := fun k => spec_PrimeIs.l0 k n (x + 1)) (fun k => ?_) (ih (x + 1) (by omega) (by omega) (by omega) ?_)
        · rw [spec_PrimeIs.l0, w64 (by omega) (by omega), if_pos hle, if_neg (by omega), if_neg (fun e => hdv (Int.dvd_of_tmod_eq_zero e)), w64 (by omega) (by omega)]
        · intro y h1 h2'
          by_cases e : y = x
          · subst e; exact hdv
          · exact h y h1 (by omega)
    · refine Ev.step (f := fun _ => some true) (fun k => ?_) ?_
      · rw [spec_PrimeIs.l0, w64 (by omega) (by omega), if_neg hle]
      · rw [prB_true.2 ⟨pr_of_none h2 x (by omega) (by omega) h, hn⟩]; exact Ev.now _
theorem spec_PrimeIs_ev (n : Int) : Ev (fun k => spec_PrimeIs.f k n) (prB n) := by
  unfold spec_PrimeIs.f
  simp only [spec_l6In_eq, Option.bind_some]
  by_cases h : 2 ≤ n ∧ n ≤ 5000
  · rw [decide_eq_true h]
    simp only [if_true]
    exact spec_PrimeIs_l0 h.1 h.2 (n - 2).toNat 2 (by omega) (by omega) (by omega) fun y h1 h2 => by omega
  · rw [decide_eq_false h]
    rw [prB_false.2 fun hp => h ⟨hp.1.1, hp.2⟩]
    exact Ev.now _
theorem impl_prime_l0 {n : Int} (h2 : 2 ≤ n) (hn : n ≤ 5000) : ∀ (d : Nat) (x : Int), 2 ≤ x → x ≤ n → n - x ≤ d → (∀ y, 2 ≤ y → y < x → ¬ y ∣ n) → Ev (fun k => impl_prime.l0 k n x) (prB n) := by
  intro d
  induction d with
  | zero =>
    intro x hx hxn hd h
    have := sq_gt hx (show n ≤ x by omega)
    have hb := mul_bd (show 0 ≤ x by omega) (show x ≤ 5000 by omega) (show 0 ≤ x by omega) (show x ≤ 5000 by omega)
    refine Ev.step (f := fun _ => some true) (fun k => ?_) ?_
    · rw [impl_prime.l0, w64 (by omega) (by omega), if_neg (by omega), decide_eq_true (by omega)]
    · rw [prB_true.2 ⟨pr_of_none h2 x (by omega) (by omega) h, hn⟩]; exact Ev.now _
  | succ d ih =>
    intro x hx hxn hd h
    have hb := mul_bd (show 0 ≤ x by omega) (show x ≤ 5000 by omega) (show 0 ≤ x by omega) (show x ≤ 5000 by omega)
    by_cases hle : x * x ≤ n
    · by_cases hdv : x ∣ n
      · have hlt : x < n := by
          have := sq_gt hx (Int.le_refl x); omega
        refine Ev.step (f := fun _ => some false) (fun k => ?_) ?_
        · rw [impl_prime.l0, w64 (by omega) (by omega), if_pos hle, if_neg (by omega), if_pos (Int.tmod_eq_zero_of_dvd hdv)]
        · rw [prB_false.2 fun hp => hp.1.2 x hx hlt hdv]; exact Ev.now _
      · have hlt : x < n := by
          have := sq_gt hx (Int.le_refl x); omega
        refine Ev.step (f := fun k => impl_prime.l0 k n (x + 1)) (fun k => ?_) (ih (x + 1) (by omega) (by omega) (by omega) ?_)
        · rw [impl_prime.l0, w64 (by omega) (by omega), if_pos hle, if_neg (by omega), if_neg (fun e => hdv (Int.dvd_of_tmod_eq_zero e)), w64 (by omega) (by omega)]
        · intro y h1 h2'
          by_cases e : y = x
          · subst e; exact hdv
          · exact h y h1 (by omega)
    · refine Ev.step (f := fun _ => some true) (fun k => ?_) ?_
      · rw [impl_prime.l0, w64 (by omega) (by omega), if_neg hle, decide_eq_true (by omega)]
      · rw [prB_true.2 ⟨pr_of_none h2 x (by omega) (by omega) h, hn⟩]; exact Ev.now _
theorem impl_PrimeIs_ev (n : Int) : Ev (fun k => impl_PrimeIs.f k n) (prB n) := by
  unfold impl_PrimeIs.f
  by_cases h5 : n ≤ 5000
  · simp only [if_pos h5]
    refine Ev.bind (a := prB n) ?_ (Ev.now _)
    unfold impl_prime.f
    by_cases h : 2 ≤ n
    · exact impl_prime_l0 h h5 (n - 2).toNat 2 (by omega) (by omega) (by omega) fun y h1 h2 => by omega
    · refine Ev.step (f := fun _ => some false) (fun k => ?_) ?_
      · rw [impl_prime.l0, w64 (by omega) (by omega), if_neg (by omega), decide_eq_false (by omega)]
      · rw [prB_false.2 fun hp => h hp.1.1]; exact Ev.now _
  · simp only [if_neg h5]
    rw [prB_false.2 fun hp => h5 hp.2]
    exact Ev.now _
theorem spec_l1Mod_eq {n m : Int} (h0 : 0 < m) (h1 : m ≤ 1000000000) : spec_l1Mod.f n m = some (n % m) := by
  unfold spec_l1Mod.f; rw [if_neg (by omega), rest_form h0 h1]
theorem impl_rest_eq {n m : Int} (h0 : 0 < m) (h1 : m ≤ 1000000000) : impl_rest.f n m = some (n % m) := by
  unfold impl_rest.f; rw [if_neg (by omega), rest_form h0 h1]
theorem impl_rootMod_l0 {n m : Int} (hm : 1 ≤ m) (hm' : m ≤ 5000) : ∀ (d : Nat) (x : Int), 0 ≤ x → x + d = m → Ev (fun k => impl_rootMod.l0 k n m m x) (two (srch (fun x => decide (x * x % m = n % m)) d x)) := by
  intro d
  induction d with
  | zero =>
    intro x h0 hd
    refine Ev.step (f := fun _ => some (0, false)) (fun k => ?_) (Ev.now _)
    rw [impl_rootMod.l0, if_neg (by omega)]
  | succ d ih =>
    intro x h0 hd
    have hb := mul_bd h0 (show x ≤ 5000 by omega) h0 (show x ≤ 5000 by omega)
    rw [srch]
    by_cases h : x * x % m = n % m
    · rw [if_pos (decide_eq_true h)]
      refine Ev.step (f := fun _ => some (x, true)) (fun k => ?_) (Ev.now _)
      rw [impl_rootMod.l0, if_pos (by omega), if_neg (by omega), impl_rest_eq (by omega) (by omega), Option.bind_some, w64 (by omega) (by omega), tm hb.1, if_pos h]
    · rw [if_neg (by simpa using h)]
      refine Ev.step (fun k => ?_) (ih (x + 1) (by omega) (by omega))
      rw [impl_rootMod.l0, if_pos (by omega), if_neg (by omega), impl_rest_eq (by omega) (by omega), Option.bind_some, w64 (x := x * x) (by omega) (by omega), tm hb.1, if_neg h, w64 (by omega) (by omega)]
theorem impl_rootMod_ev {n m : Int} (hm : 1 ≤ m) (hm' : m ≤ 5000) : Ev (fun k => impl_rootMod.f k n m) (two (rootS n m)) :=
  impl_rootMod_l0 hm hm' _ 0 (by omega) (by omega)
theorem impl_RootMod_ev (n m : Int) : Ev (fun k => impl_RootMod.f k n m) (rootOf n m) := by
  unfold impl_RootMod.f rootOf
  simp only [impl_isNumber_eq, Option.bind_some]
  by_cases h : numB n = true
  · simp only [if_pos h]
    by_cases h1 : m < 1
    · simp only [if_pos h1]; rw [if_neg (by omega)]; exact Ev.now _
    · simp only [if_neg h1]
      by_cases h5 : m > 5000
      · simp only [if_pos h5]; rw [if_neg (by omega)]; exact Ev.now _
      · simp only [if_neg h5]; rw [if_pos ⟨h, by omega, by omega⟩]
        exact Ev.bind (impl_rootMod_ev (by omega) (by omega)) (Ev.now _)
  · simp only [if_neg h]; rw [if_neg (fun h' => h h'.1)]; exact Ev.now _
theorem spec_l1Power_l0 {m : Int} (hm : 1 ≤ m) (hm' : m ≤ 5000) : ∀ (f : Nat) (b e o : Int), 0 ≤ e → e ≤ f → e ≤ 1000000000 → 0 ≤ b → b < m → 0 ≤ o → o < m → Ev (fun k => spec_l1Power.l0 k b e m o) (o * b ^ e.toNat % m) := by
  intro f
  induction f with
  | zero =>
    intro b e o he hf hE hb hb' ho ho'
    have : e = 0 := by omega
    subst this
    have e1 : o * b ^ (0 : Int).toNat % m = o := by
      show o * b ^ 0 % m = o
      rw [Int.pow_zero, Int.mul_one, Int.emod_eq_of_lt ho ho']
    rw [e1]
    refine Ev.step (f := fun _ => some o) (fun k => ?_) (Ev.now _)
    rw [spec_l1Power.l0, if_neg (by omega)]
  | succ f ih =>
    intro b e o he hf hE hb hb' ho ho'
    by_cases h0 : e = 0
    · subst h0
      have e1 : o * b ^ (0 : Int).toNat % m = o := by
        show o * b ^ 0 % m = o
        rw [Int.pow_zero, Int.mul_one, Int.emod_eq_of_lt ho ho']
      rw [e1]
      refine Ev.step (f := fun _ => some o) (fun k => ?_) (Ev.now _)
      rw [spec_l1Power.l0, if_neg (by omega)]
    · have bb := mul_bd hb (show b ≤ 5000 by omega) hb (show b ≤ 5000 by omega)
      have ob := mul_bd ho (show o ≤ 5000 by omega) hb (show b ≤ 5000 by omega)
      have r1 := emod_bd (b * b) (show 0 < m by omega)
      have r2 := emod_bd (o * b) (show 0 < m by omega)
      have hd : Int.tdiv e 2 = e / 2 := Int.tdiv_eq_ediv_of_nonneg he
      by_cases h1 : e % 2 = 1
      · have := ih (b * b % m) (e / 2) (o * b % m) (by omega) (by omega) (by omega) r1.1 r1.2 r2.1 r2.2
        have e1 : o * b % m * (b * b % m) ^ (e / 2).toNat % m = o * b ^ e.toNat % m := by
          have ee : e.toNat = 2 * (e / 2).toNat + 1 := by omega
          rw [Int.mul_emod, Int.emod_emod, emod_pow, ← Int.mul_emod, ee, Int.pow_succ, Int.pow_mul, pow_two']
          congr 1; grind
        rw [e1] at this
        refine Ev.step (fun k => ?_) this
        rw [spec_l1Power.l0, if_pos (by omega), tm he, if_pos h1, if_neg (by omega), w64 (x := b * b) (by omega) (by omega), tm bb.1, hd, w64 (x := e / 2) (by omega) (by omega), w64 (x := o * b) (by omega) (by omega), tm ob.1]
      · have := ih (b * b % m) (e / 2) o (by omega) (by omega) (by omega) r1.1 r1.2 ho ho'
        have e1 : o * (b * b % m) ^ (e / 2).toNat % m = o * b ^ e.toNat % m := by
          have ee : e.toNat = 2 * (e / 2).toNat := by omega
          rw [Int.mul_emod, emod_pow, ← Int.mul_emod, ee, Int.pow_mul, pow_two']
        rw [e1] at this
        refine Ev.step (fun k => ?_) this
        rw [spec_l1Power.l0, if_pos (by omega), tm he, if_neg h1, if_neg (by omega), w64 (x := b * b) (by omega) (by omega), tm bb.1, hd, w64 (x := e / 2) (by omega) (by omega)]
theorem spec_l1Power_ev {n e m : Int} (he : 0 ≤ e) (he' : e ≤ 1000000000) (hm : 1 ≤ m) (hm' : m ≤ 5000) : Ev (fun k => spec_l1Power.f k n e m) (n ^ e.toNat % m) := by
  unfold spec_l1Power.f
  simp only [if_neg (show ¬ m = 0 by omega), spec_l1Mod_eq (n := n) (show 0 < m by omega) (by omega), Option.bind_some]
  have r1 := emod_bd n (show 0 < m by omega)
  have r2 := emod_bd 1 (show 0 < m by omega)
  have := spec_l1Power_l0 hm hm' e.toNat (n % m) e (1 % m) he (by omega) he' r1.1 r1.2 r2.1 r2.2
  have e1 : 1 % m * (n % m) ^ e.toNat % m = n ^ e.toNat % m := by
    rw [Int.mul_emod, Int.emod_emod, emod_pow, ← Int.mul_emod, Int.one_mul]
  rw [e1] at this
  exact this
theorem impl_residue_l0 {n p : Int} (hp : Pr p) (h2 : p ≠ 2) (hp' : p ≤ 5000) (hn : ¬ p ∣ n) : ∀ (d : Nat) (x : Int), 1 ≤ x → x + d = p / 2 + 1 → (∀ y, 1 ≤ y → y < x → y * y % p ≠ n % p) → Ev (fun k => impl_residue.l0 k p (n % p) x) (leg n p) := by
  have h0 := hp.1
  intro d
  induction d with
  | zero =>
    intro x hx hd h
    have : leg n p = -1 := leg_neg hn (fun hr => by
      obtain ⟨y, h1, h3, h4⟩ := (isRes_half hp h2 hn).1 hr
      exact h y h1 (by omega) h4)
    rw [this]
    refine Ev.step (f := fun _ => some (-1)) (fun k => ?_) (Ev.now _)
    rw [impl_residue.l0, tdiv_half (by omega), w64 (by omega) (by omega), if_neg (by omega)]
  | succ d ih =>
    intro x hx hd h
    have hb := mul_bd (show 0 ≤ x by omega) (show x ≤ 5000 by omega) (show 0 ≤ x by omega) (show x ≤ 5000 by omega)
    by_cases e : x * x % p = n % p
    · have : leg n p = 1 := leg_one hn ((isRes_half hp h2 hn).2 ⟨x, hx, by omega, e⟩)
      rw [this]
      refine Ev.step (f := fun _ => some 1) (fun k => ?_) (Ev.now _)
      rw [impl_residue.l0, tdiv_half (by omega), w64 (x := p / 2) (by omega) (by omega), if_pos (by omega), if_neg (by omega), w64 (by omega) (by omega), tm hb.1, if_pos e]
    · refine Ev.step (fun k => ?_) (ih (x + 1) (by omega) (by omega) fun y h1 h3 => ?_)
      · rw [impl_residue.l0, tdiv_half (by omega), w64 (x := p / 2) (by omega) (by omega), if_pos (by omega), if_neg (by omega), w64 (x := x * x) (by omega) (by omega), tm hb.1, if_neg e, w64 (by omega) (by omega)]
      · by_cases e' : y = x
        · subst e'; exact e
        · exact h y h1 (by omega)
theorem impl_residue_ev {n p : Int} (hp : Pr p) (h2 : p ≠ 2) (hp' : p ≤ 5000) : Ev (fun k => impl_residue.f k n p) (leg n p) := by
  have h0 := hp.1
  unfold impl_residue.f
  simp only [impl_rest_eq (n := n) (show 0 < p by omega) (by omega), Option.bind_some]
  by_cases h : n % p = 0
  · simp only [if_pos h]; rw [leg_zero (Int.dvd_of_emod_eq_zero h)]; exact Ev.now _
  · simp only [if_neg h]
    exact impl_residue_l0 hp h2 hp' (fun hd => h (Int.emod_eq_zero_of_dvd hd)) (p / 2).toNat 1 (by omega) (by omega) (fun y h1 h3 => by omega)
theorem spec_l1Residue_ev {n p : Int} (hp : Pr p) (h2 : p ≠ 2) (hp' : p ≤ 5000) : Ev (fun k => spec_l1Residue.f k n p) (leg n p) := by
  have h0 := hp.1
  obtain ⟨h, hh, h1⟩ := odd_prime hp h2
  unfold spec_l1Residue.f
  have e : Int.tdiv (p - 1) 2 = (h : Int) := by
    rw [tdiv_half (by omega)]; omega
  simp only [w64 (x := p - 1) (by omega) (by omega), e, w64 (x := (h : Int)) (by omega) (by omega)]
  refine Ev.bind (spec_l1Power_ev (n := n) (e := h) (by omega) (by omega) (by omega) hp') ?_
  rw [Int.toNat_natCast]
  have hm : leg n p % p = n ^ h % p := Int.emod_eq_emod_iff_emod_sub_eq_zero.2 (Int.emod_eq_zero_of_dvd (leg_euler hp h hh n))
  rw [← hm]
  rcases leg_cases n p with h | h | h
  · rw [h, Int.zero_emod]; simp only [if_neg (show ¬ (0 : Int) = p - 1 by omega)]; exact Ev.now _
  · rw [h, Int.emod_eq_of_lt (by omega) (by omega)]; simp only [if_neg (show ¬ (1 : Int) = p - 1 by omega)]; exact Ev.now _
  · have e2 : (-1 : Int) % p = p - 1 := by
      rw [← Int.add_emod_right, Int.emod_eq_of_lt (by omega) (by omega)]; omega
    rw [h, e2]; simp only [if_true]; exact Ev.now _
theorem spec_ResidueIs_ev (n p : Int) : Ev (fun k => spec_ResidueIs.f k n p) (resOf n p) := by
  unfold spec_ResidueIs.f resOf
  simp only [spec_l1Number_eq, Option.bind_some]
  by_cases h : numB n = true
  · simp only [if_pos h]
    refine Ev.bind (spec_PrimeIs_ev p) ?_
    by_cases hp : prB p = true
    · simp only [if_pos hp]
      have hp' := prB_true.1 hp
      by_cases h2 : p = 2
      · simp only [if_pos h2]; rw [if_neg (fun h => h.2.2 h2)]; exact Ev.now _
      · simp only [if_neg h2]; rw [if_pos ⟨h, hp, h2⟩]
        exact Ev.bind (spec_l1Residue_ev hp'.1 h2 hp'.2) (Ev.now _)
    · simp only [if_neg hp]; rw [if_neg (fun h => hp h.2.1)]; exact Ev.now _
  · simp only [if_neg h]; rw [if_neg (fun h' => h h'.1)]; exact Ev.now _
theorem impl_ResidueIs_ev (n p : Int) : Ev (fun k => impl_ResidueIs.f k n p) (resOf n p) := by
  unfold impl_ResidueIs.f resOf
  simp only [impl_isNumber_eq, Option.bind_some]
  by_cases h : numB n = true
  · simp only [if_pos h]
    refine Ev.bind (impl_PrimeIs_ev p) ?_
    by_cases hp : prB p = true
    · simp only [if_pos hp]
      have hp' := prB_true.1 hp
      by_cases h2 : p = 2
      · simp only [if_pos h2]; rw [if_neg (fun h => h.2.2 h2)]; exact Ev.now _
      · simp only [if_neg h2]; rw [if_pos ⟨h, hp, h2⟩]
        exact Ev.bind (impl_residue_ev hp'.1 h2 hp'.2) (Ev.now _)
    · simp only [if_neg hp]; rw [if_neg (fun h => hp h.2.1)]; exact Ev.now _
  · simp only [if_neg h]; rw [if_neg (fun h' => h h'.1)]; exact Ev.now _
theorem rd_pre (p : List Int) (a : Int) (l : List Int) : rd (p ++ a :: l) (p.length : Int) = a := by
  unfold rd
  rw [Int.toNat_natCast, List.getD_eq_getElem?_getD, List.getElem?_append_right (Nat.le_refl _)]
  simp
theorem set_pre (p : List Int) (a : Int) (l : List Int) (c : Int) : (p ++ a :: l).set ((p.length : Int)).toNat c = p ++ c :: l := by
  rw [Int.toNat_natCast, List.set_append_right _ _ (Nat.le_refl _)]
  simp
theorem spec_l6Open_eq {l : List Int} (h : ∀ x ∈ l, (Lit.int .u8 x).wf = true) : ∃ b, GB b ∧ spec_l6Open.f l = some (b, 0) := by
  unfold spec_l6Open.f
  by_cases h1 : (l.length : Int) > 2000
  · rw [if_pos h1, if_pos (by omega)]
    exact ⟨l.take 2000, ⟨by simp; omega, fun x hx => u8_bd (h x (List.mem_of_mem_take hx))⟩, rfl⟩
  · rw [if_neg h1]
    exact ⟨l, ⟨by omega, fun x hx => u8_bd (h x hx)⟩, rfl⟩
theorem rd_bd {b : List Int} (hb : GB b) (i : Int) : 0 ≤ rd b i ∧ rd b i ≤ 255 := by
  unfold rd
  rw [List.getD_eq_getElem?_getD]
  cases h : b[i.toNat]? with
  | none => simp
  | some x => exact hb.2 x (List.mem_of_getElem? h)
theorem pick_ev {b : List Int} (hb : GB b) {p n : Int} (hp : 0 ≤ p) (hp' : p ≤ 1000) (hn : 1 ≤ n) (hn' : n ≤ 1000) : ∃ v, 0 ≤ v ∧ v < n ∧ Ev (fun k => spec_l6Rd_pick.f k b p n) (v, p + 1) := by
  have hl := hb.1
  have e1 : wrap64 (p + 1) = p + 1 := w64 (by omega) (by omega)
  have e2 : wrap64 (p + 1 - 1) = p := by rw [w64 (by omega) (by omega)]; omega
  unfold spec_l6Rd_pick.f
  simp only [if_neg (show ¬ n < 1 by omega), e1]
  by_cases h0 : b.length = 0
  · refine ⟨0, by omega, by omega, Ev.step (f := fun _ => some (0, p + 1)) (fun k => ?_) (Ev.now _)⟩
    rw [spec_l6Rd_pick.j0, if_pos (by simp [h0])]
  · have hL : ((b.length : Int) == 0) = false := by rw [beq_eq_false_iff_ne]; omega
    rw [hL]
    by_cases h1 : p < (b.length : Int)
    · have hr := rd_bd hb p
      have m := emod_bd (rd b p) (show 0 < n by omega)
      refine ⟨rd b p % n, m.1, m.2, Ev.step (f := fun _ => some (rd b p % n, p + 1)) (fun k => ?_) (Ev.now _)⟩
      rw [spec_l6Rd_pick.j0, if_neg (by simp), e2, if_pos h1, if_pos hp, if_neg (by omega), w64 (x := rd b p) (by omega) (by omega), tm hr.1]
    · have m1 := emod_bd p (show (0 : Int) < b.length by omega)
      have t1 : Int.tmod p (b.length : Int) = p % (b.length : Int) := tm hp
      have e7 : wrap64 (wrap64 (p * 7) + 3) = p * 7 + 3 := by rw [w64 (x := p * 7) (by omega) (by omega), w64 (by omega) (by omega)]
      have t2 : Int.tmod (p * 7 + 3) (b.length : Int) = (p * 7 + 3) % (b.length : Int) := tm (by omega)
      have m2 := emod_bd (p * 7 + 3) (show (0 : Int) < b.length by omega)
      have r1 := rd_bd hb (p % (b.length : Int))
      have r2 := rd_bd hb ((p * 7 + 3) % (b.length : Int))
      have d1 : Int.tdiv p (b.length : Int) = p / (b.length : Int) := Int.tdiv_eq_ediv_of_nonneg hp
      have d2 : 0 ≤ p / (b.length : Int) ∧ p / (b.length : Int) ≤ p := ⟨Int.ediv_nonneg hp (by omega), Int.ediv_le_self _ hp⟩
      have key : ∃ v, 0 ≤ v ∧ v < n ∧ ∀ k, spec_l6Rd_pick.j0 (k + 1) n false b (p + 1) = some (v, p + 1) := by
        generalize hq1 : rd b (p % (b.length : Int)) = q1 at r1
        generalize hq2 : rd b ((p * 7 + 3) % (b.length : Int)) = q2 at r2
        generalize hq3 : p / (b.length : Int) = q3 at d1 d2
        have hx0 : 0 ≤ Go.bits .xor .i64 (q1 * 131 + q2 * 1117 + p * 29 + q3 * 53) ((q1 * 131 + q2 * 1117 + p * 29 + q3 * 53) / 64) := xor_nonneg (by omega) (by omega) (by omega) (by omega)
        refine ⟨_, (emod_bd (Go.bits .xor .i64 (q1 * 131 + q2 * 1117 + p * 29 + q3 * 53) ((q1 * 131 + q2 * 1117 + p * 29 + q3 * 53) / 64)) (show 0 < n by omega)).1, (emod_bd _ (show 0 < n by omega)).2, fun k => ?_⟩
        rw [spec_l6Rd_pick.j0, if_neg (by simp), e2, if_neg h1, if_neg (by omega), t1, if_pos m1.1, if_pos m1.2, e7, t2, if_pos m2.1, if_pos m2.2, if_neg (by omega), hq1, hq2, d1,
          w64 (x := q1) (by omega) (by omega), w64 (x := q2) (by omega) (by omega), w64 (x := q1 * 131) (by omega) (by omega), w64 (x := q2 * 1117) (by omega) (by omega), w64 (x := q1 * 131 + q2 * 1117) (by omega) (by omega),
          w64 (x := p * 29) (by omega) (by omega), w64 (x := q1 * 131 + q2 * 1117 + p * 29) (by omega) (by omega), w64 (x := q3) (by omega) (by omega), w64 (x := q3 * 53) (by omega) (by omega),
          w64 (x := q1 * 131 + q2 * 1117 + p * 29 + q3 * 53) (by omega) (by omega),
          Int.tdiv_eq_ediv_of_nonneg (a := q1 * 131 + q2 * 1117 + p * 29 + q3 * 53) (by omega), w64 (x := (q1 * 131 + q2 * 1117 + p * 29 + q3 * 53) / 64) (by omega) (by omega), tm hx0]
      obtain ⟨v, h2, h3, h4⟩ := key
      exact ⟨v, h2, h3, Ev.step (f := fun _ => some (v, p + 1)) h4 (Ev.now _)⟩
theorem l91Number_ev {b : List Int} (hb : GB b) {p : Int} (hp : 0 ≤ p) (hp' : p ≤ 500) : ∃ n q, DN n ∧ p ≤ q ∧ q ≤ p + 4 ∧ Ev (fun k => spec_l91Number.f k b p) (n, q) := by
  unfold spec_l91Number.f
  obtain ⟨v, a1, a2, a3⟩ := pick_ev hb (p := p) (n := 30) hp (by omega) (by omega) (by omega)
  by_cases h : v = 0
  · obtain ⟨u, b1, b2, b3⟩ := pick_ev hb (p := p + 1) (n := 6) (by omega) (by omega) (by omega) (by omega)
    have key : DN (rd [0, 5000, 5001, (-5001), 4096, 3969] u) := by
      have : u = 0 ∨ u = 1 ∨ u = 2 ∨ u = 3 ∨ u = 4 ∨ u = 5 := by omega
      rcases this with rfl | rfl | rfl | rfl | rfl | rfl <;> simp [DN, rd]
    refine ⟨_, p + 2, key, by omega, by omega, Ev.bind a3 ?_⟩
    simp only [if_pos h, Option.bind_some]
    refine Ev.bind b3 ?_
    simp only [if_pos b1]
    rw [if_pos (by simp; omega), show p + 1 + 1 = p + 2 by omega]
    exact Ev.now _
  · obtain ⟨u, b1, b2, b3⟩ := pick_ev hb (p := p + 1) (n := 40) (by omega) (by omega) (by omega) (by omega)
    obtain ⟨x, c1, c2, c3⟩ := pick_ev hb (p := p + 1 + 1) (n := 3) (by omega) (by omega) (by omega) (by omega)
    obtain ⟨s, d1, d2, d3⟩ := pick_ev hb (p := p + 1 + 1 + 1) (n := 2) (by omega) (by omega) (by omega) (by omega)
    have hux : 0 ≤ u * (1 + x) ∧ u * (1 + x) ≤ 117 := by
      have : x = 0 ∨ x = 1 ∨ x = 2 := by omega
      rcases this with rfl | rfl | rfl <;> omega
    by_cases hs : s = 0
    · refine ⟨-(1 + u * (1 + x)), p + 4, ?_, by omega, by omega, Ev.bind a3 ?_⟩
      · unfold DN; omega
      simp only [if_neg h]
      refine Ev.bind b3 (Ev.bind c3 (Ev.bind d3 ?_))
      simp only [if_pos hs]
      rw [w64 (x := 1 + x) (by omega) (by omega), w64 (x := u * (1 + x)) (by omega) (by omega), w64 (x := 1 + u * (1 + x)) (by omega) (by omega), w64 (x := -(1 + u * (1 + x))) (by omega) (by omega), show p + 1 + 1 + 1 + 1 = p + 4 by omega]
      exact Ev.now _
    · refine ⟨1 + u * (1 + x), p + 4, ?_, by omega, by omega, Ev.bind a3 ?_⟩
      · unfold DN; omega
      simp only [if_neg h]
      refine Ev.bind b3 (Ev.bind c3 (Ev.bind d3 ?_))
      simp only [if_neg hs]
      rw [w64 (x := 1 + x) (by omega) (by omega), w64 (x := u * (1 + x)) (by omega) (by omega), w64 (x := 1 + u * (1 + x)) (by omega) (by omega), show p + 1 + 1 + 1 + 1 = p + 4 by omega]
      exact Ev.now _
theorem l91Prime_ev {b : List Int} (hb : GB b) {p : Int} (hp : 0 ≤ p) (hp' : p ≤ 500) : ∃ n q, DP n ∧ p ≤ q ∧ q ≤ p + 4 ∧ Ev (fun k => spec_l91Prime.f k b p) (n, q) := by
  unfold spec_l91Prime.f
  obtain ⟨v, a1, a2, a3⟩ := pick_ev hb (p := p) (n := 24) hp (by omega) (by omega) (by omega)
  by_cases h : v = 0
  · obtain ⟨u, b1, b2, b3⟩ := pick_ev hb (p := p + 1) (n := 6) (by omega) (by omega) (by omega) (by omega)
    have key : DP (rd [0, 1, 4, (-3), 97, 9] u) := by
      have : u = 0 ∨ u = 1 ∨ u = 2 ∨ u = 3 ∨ u = 4 ∨ u = 5 := by omega
      rcases this with rfl | rfl | rfl | rfl | rfl | rfl <;> simp [DP, rd]
    refine ⟨_, p + 1 + 1, key, by omega, by omega, Ev.bind a3 ?_⟩
    simp only [if_pos h, Option.bind_some]
    refine Ev.bind b3 ?_
    simp only [if_pos b1]
    rw [if_pos (by simp; omega)]
    exact Ev.now _
  · obtain ⟨u, b1, b2, b3⟩ := pick_ev hb (p := p + 1) (n := 8) (by omega) (by omega) (by omega) (by omega)
    have key : DP (rd [2, 3, 5, 7, 11, 13, 3, 2] u) := by
      have : u = 0 ∨ u = 1 ∨ u = 2 ∨ u = 3 ∨ u = 4 ∨ u = 5 ∨ u = 6 ∨ u = 7 := by omega
      rcases this with rfl | rfl | rfl | rfl | rfl | rfl | rfl | rfl <;> simp [DP, rd]
    refine ⟨_, p + 1 + 1, key, by omega, by omega, Ev.bind a3 ?_⟩
    simp only [if_neg h, Option.bind_some]
    refine Ev.bind b3 ?_
    simp only [if_pos b1]
    rw [if_pos (by simp; omega)]
    exact Ev.now _
theorem DrawResidueIs_ev {l : List Int} (h : ∀ x ∈ l, (Lit.int .u8 x).wf = true) : ∃ n p, DN n ∧ DP p ∧ Ev (fun k => spec_DrawResidueIs.f k l) (n, p) := by
  obtain ⟨bs, hb, e⟩ := spec_l6Open_eq h
  unfold spec_DrawResidueIs.f
  simp only [e, Option.bind_some]
  obtain ⟨n, q, a1, a2, a3, a4⟩ := l91Number_ev hb (p := 0) (by omega) (by omega)
  obtain ⟨p, r, b1, b2, b3, b4⟩ := l91Prime_ev hb (p := q) (by omega) (by omega)
  exact ⟨n, p, a1, b1, Ev.bind a4 (Ev.bind b4 (Ev.now _))⟩
theorem root_leg {n p : Int} (hp : Pr p) : (two (rootS n p)).2 = (leg n p != -1) := by
  have h2 := hp.1
  cases hr : rootS n p with
  | none =>
    have : leg n p = -1 := by
      rcases leg_cases n p with h | h | h
      · have hd := leg_eq_zero.1 h
        obtain ⟨r, hr'⟩ := rootS_some (n := n) (m := p) (x := 0) (by omega) (by
          have := Int.dvd_neg.2 hd
          have e : (0 : Int) * 0 - n = -n := by omega
          rw [e]; exact this)
        rw [hr] at hr'; cases hr'
      · obtain ⟨x, hx⟩ := (leg_eq_one.1 h).2
        obtain ⟨r, hr'⟩ := rootS_some (n := n) (m := p) (by omega) hx
        rw [hr] at hr'; cases hr'
      · exact h
    rw [this]; rfl
  | some x =>
    obtain ⟨r1, r2, r3⟩ := rootS_spec (by omega) hr
    have hne : leg n p ≠ -1 := fun h => (leg_eq_neg.1 h).2 ⟨x, r3⟩
    show true = (leg n p != -1)
    symm; rw [bne_iff_ne]; exact hne
theorem FnResidue : laws_FnResidue.Pure := by
  intro l m _ _ hl _ _ _
  refine Ev.rounds ?_
  unfold laws_FnResidue.f
  have stop : ∀ (r : List Int), Ev (fun k => laws_FnResidue.j0 k l r true) true := fun r =>
    Ev.step (f := fun _ => some true) (fun k => by rw [laws_FnResidue.j0, if_pos rfl]) (Ev.now _)
  by_cases hlen : (l.length : Int) > 1048576
  · simp only [if_pos hlen]; exact stop m
  · simp only [if_neg hlen]
    by_cases hlm : (m.length : Int) > 1048576
    · rw [decide_eq_true hlm]; exact stop m
    · rw [decide_eq_false hlm]
      refine Ev.step (fun k => by rw [laws_FnResidue.j0, if_neg (by simp)]) ?_
      obtain ⟨n, p, dn, dp, hev⟩ := DrawResidueIs_ev hl
      refine Ev.bind hev (Ev.bind (impl_ResidueIs_ev n p) (Ev.bind (spec_ResidueIs_ev n p) ?_))
      simp only [if_true]
      by_cases hc : numB n = true ∧ prB p = true ∧ p ≠ 2
      · have hv : resOf n p = leg n p := by unfold resOf; rw [if_pos hc]
        have hp := prB_true.1 hc.2.1
        have hn := numB_true.1 hc.1
        have h2 := hp.1.1
        have hlc := leg_cases n p
        rw [hv]
        have hb : (leg n p == -2) = false := by rw [beq_eq_false_iff_ne]; omega
        rw [hb]
        have hk := emod_bd (m.length : Int) (show (0 : Int) < 9 by omega)
        obtain ⟨j, hj⟩ : ∃ j, j = (m.length : Int) % 9 := ⟨_, rfl⟩
        rw [← hj] at hk
        have mk := abs_mul_bd hn.1 hn.2 (show -9 ≤ 1 + j by omega) (show 1 + j ≤ 9 by omega)
        refine Ev.step (fun k => by rw [laws_FnResidue.j1, if_neg (by simp), ← hj, w64 (x := n * (1 + j)) (by omega) (by omega)]) ?_
        refine Ev.bind (impl_RootMod_ev n p) (Ev.bind (impl_ResidueIs_ev (1 + j) p) (Ev.bind (impl_ResidueIs_ev (n * (1 + j)) p) ?_))
        have hr : rootOf n p = two (rootS n p) := by unfold rootOf; rw [if_pos ⟨hc.1, by omega, hp.2⟩]
        have hx : resOf (1 + j) p = leg (1 + j) p := by unfold resOf; rw [if_pos ⟨numB_true.2 ⟨by omega, by omega⟩, hc.2⟩]
        have hy : resOf (n * (1 + j)) p = -2 ∨ resOf (n * (1 + j)) p = leg n p * leg (1 + j) p := by
          unfold resOf
          by_cases h : numB (n * (1 + j)) = true ∧ prB p = true ∧ p ≠ 2
          · rw [if_pos h, leg_mul hp.1 hc.2.2]; exact Or.inr rfl
          · rw [if_neg h]; exact Or.inl rfl
        have hz : ((leg n p == 0) == (Int.tmod n p == 0)) = true := by
          rw [beq_iff_eq, beq_decide, beq_decide, decide_eq_decide, tm_zero, leg_eq_zero]
          exact ⟨Int.emod_eq_zero_of_dvd, Int.dvd_of_emod_eq_zero⟩
        have hs := small_mul hlc (leg_cases (1 + j) p)
        rw [hr, hx, root_leg hp.1]
        simp only [beq_self_eq_true, if_true, if_neg (show ¬ p = 0 by omega), hz, w64 (x := leg n p * leg (1 + j) p) (by omega) (by omega)]
        rcases hy with hy | hy
        · rw [hy]; simp only [if_true]; exact Ev.now _
        · rw [hy]; simp only [if_neg (show ¬ leg n p * leg (1 + j) p = -2 by omega), if_true]; exact Ev.now _
      · have hv : resOf n p = -2 := by unfold resOf; rw [if_neg hc]
        rw [hv]
        refine Ev.step (f := fun _ => some true) (fun k => ?_) (Ev.now _)
        rw [laws_FnResidue.j1, if_pos (by simp), beq_self_eq_true]

end Go.Proofs.Ytnbjnlbaoogbmaa.Pure
