/- At every draw the program's NonResidue is the reference's; each smaller integer is a residue, the number itself is none, and it is a prime.
No condition beyond the given statement. The printed functions are tied to plain arithmetic one by one; the law follows at the end. -/
import Derived.Test.YtnbjnlbaoogbmaaWSized
import Derived.Test.YtnbjnlbaoogbmaaPFnNonResiduex2
import Derived.Test.YtnbjnlbaoogbmaaM7
set_option linter.unusedVariables false
set_option linter.unusedSimpArgs false
namespace Go.Proofs.Ytnbjnlbaoogbmaa
open Go.ChangeShapes Go.WideShapes
/-- The words' lemma on the length of a slice, under the name by which the row of this law calls it. -/
theorem PrintWords.sized_ints {H : Type} {enc : TypeId × Value → H} {P : Program} {W : World} {base : Nat} {spare : Nat → Bool} {held : Bool} {t e : TypeId} {k : IntKind} {a : Option Addr} {len cap : Nat} {d : DataW H} {ps : List MemPlace} {ts : List TypeId} {ds : List (DataW H)} {j : Nat}
    (hsz : (DataW.weightsEach P ts ds).all (· ≤ reachBytes) = true) (ht : ts[j]? = some t) (hd : ds[j]? = some d) (hu : P.underlying t = some (.slice e)) (he : P.underlying e = some (.int k)) (hc : P.cellsOf e = 1) {B : Nat} (hB : P.bytesOf e = B)
    (h : DataW.Trod enc P W base spare held t (.slice a len cap) d ps) : len * B ≤ 140737488351232 :=
  Go.Proofs.YtnbjnlbaoogbmaaW.PrintWords.sized_ints hsz ht hd hu he hc hB h
end Go.Proofs.Ytnbjnlbaoogbmaa
namespace Go.Proofs.Ytnbjnlbaoogbmaa.Pure
open Go.RowKit Go.Proofs.Ytnbjnlbaoogbmaa.PFnNonResidue Go.Proofs.YtnbjnlbaoogbmaaW.PrintWords Go.Proofs.YtnbjnlbaoogbmaaW.PrintLast Go.Proofs.YtnbjnlbaoogbmaaW.PrintMore Go.Proofs.LG

theorem spec_l6In_eq (a b c : Int) : spec_l6In.f a b c = some (decide (b ≤ a ∧ a ≤ c)) := by
  unfold spec_l6In.f
  by_cases h : a ≥ b
  · rw [if_pos h]; congr 1; rw [decide_eq_decide]; omega
  · rw [if_neg h]; congr 1; symm; rw [decide_eq_false_iff_not]; omega
theorem impl_isNumber_eq (a : Int) : impl_isNumber.f a = some (numB a) := by
  unfold impl_isNumber.f numB
  by_cases h : a ≥ -5000
  · rw [if_pos h]; congr 1; rw [decide_eq_decide]; omega
  · rw [if_neg h]; congr 1; symm; rw [decide_eq_false_iff_not]; omega
theorem spec_PrimeIs_l0 {n : Int} (h2 : 2 ≤ n) (hn : n ≤ 5000) : ∀ (d : Nat) (x : Int), 2 ≤ x → x ≤ n → n - x ≤ d → (∀ y, 2 ≤ y → y < x → ¬ y ∣ n) → Ev (fun k => spec_PrimeIs.l0 k n x) (prB n) := by
  intro d
  induction d with
  | zero =>
    intro x hx hxn hd h
    have := sq_gt hx (show n ≤ x by omega)
    have hb := mul_bd (show 0 ≤ x by omega) (show x ≤ 5000 by omega) (show 0 ≤ x by omega) (show x ≤ 5000 by omega)
    refine Ev.step (f := fun _ => some true) (fun k => ?_) ?_
    · rw [spec_PrimeIs.l0, w64 (by omega) (by omega), if_neg (by omega)]
    · rw [prB_true.2 ⟨pr_of_none h2 x (by omega) (by omega) h, hn⟩]; exact Ev.now _
  | succ d ih =>
    intro x hx hxn hd h
    have hb := mul_bd (show 0 ≤ x by omega) (show x ≤ 5000 by omega) (show 0 ≤ x by omega) (show x ≤ 5000 by omega)
    by_cases hle : x * x ≤ n
    · by_cases hdv : x ∣ n
      · have hlt : x < n := by
          have := sq_gt hx (Int.le_refl x); omega
        refine Ev.step (f := fun _ => some false) (fun k => ?_) ?_
        · rw [spec_PrimeIs.l0, w64 (by omega) (by omega), if_pos hle, if_neg (by omega), if_pos (Int.tmod_eq_zero_of_dvd hdv)]
        · rw [prB_false.2 fun hp => hp.1.2 x hx hlt hdv]; exact Ev.now _
      · have hlt : x < n := by
          have := sq_gt hx (Int.le_refl x); omega
        refine Ev.step (f := fun k => spec_PrimeIs.l0 k n (x + 1)) (fun k => ?_) (ih (x + 1) (by omega) (by omega) (by omega) ?_)
        · rw [spec_PrimeIs.l0, w64 (by omega) (by omega), if_pos hle, if_neg (by omega), if_neg (fun e => hdv (Int.dvd_of_tmod_eq_zero e)), w64 (by omega) (by omega)]
        · intro y h1 h2'
          by_cases e : y = x
          · subst e; exact hdv
          · exact h y h1 (by omega)
    · refine Ev.step (f := fun _ => some true) (fun k => ?_) ?_
      · rw [spec_PrimeIs.l0, w64 (by omega) (by omega), if_neg hle]
      · rw [prB_true.2 ⟨pr_of_none h2 x (by omega) (by omega) h, hn⟩]; exact Ev.now _
theorem spec_PrimeIs_ev (n : Int) : Ev (fun k => spec_PrimeIs.f k n) (prB n) := by
  unfold spec_PrimeIs.f
  simp only [spec_l6In_eq, Option.bind_some]
  by_cases h : 2 ≤ n ∧ n ≤ 5000
  · rw [decide_eq_true h]
    simp only [if_true]
    exact spec_PrimeIs_l0 h.1 h.2 (n - 2).toNat 2 (by omega) (by omega) (by omega) fun y h1 h2 => by omega
  · rw [decide_eq_false h]
    rw [prB_false.2 fun hp => h ⟨hp.1.1, hp.2⟩]
    exact Ev.now _
theorem impl_prime_l0 {n : Int} (h2 : 2 ≤ n) (hn : n ≤ 5000) : ∀ (d : Nat) (x : Int), 2 ≤ x → x ≤ n → n - x ≤ d → (∀ y, 2 ≤ y → y < x → ¬ y ∣ n) → Ev (fun k => impl_prime.l0 k n x) (prB n) := by
  intro d
  induction d with
  | zero =>
    intro x hx hxn hd h
    have := sq_gt hx (show n ≤ x by omega)
    have hb := mul_bd (show 0 ≤ x by omega) (show x ≤ 5000 by omega) (show 0 ≤ x by omega) (show x ≤ 5000 by omega)
    refine Ev.step (f := fun _ => some true) (fun k => ?_) ?_
    · rw [impl_prime.l0, w64 (by omega) (by omega), if_neg (by omega), decide_eq_true (by omega)]
    · rw [prB_true.2 ⟨pr_of_none h2 x (by omega) (by omega) h, hn⟩]; exact Ev.now _
  | succ d ih =>
    intro x hx hxn hd h
    have hb := mul_bd (show 0 ≤ x by omega) (show x ≤ 5000 by omega) (show 0 ≤ x by omega) (show x ≤ 5000 by omega)
    by_cases hle : x * x ≤ n
    · by_cases hdv : x ∣ n
      · have hlt : x < n := by
          have := sq_gt hx (Int.le_refl x); omega
        refine Ev.step (f := fun _ => some false) (fun k => ?_) ?_
        · rw [impl_prime.l0, w64 (by omega) (by omega), if_pos hle, if_neg (by omega), if_pos (Int.tmod_eq_zero_of_dvd hdv)]
        · rw [prB_false.2 fun hp => hp.1.2 x hx hlt hdv]; exact Ev.now _
      · have hlt : x < n := by
          have := sq_gt hx (Int.le_refl x); omega
        refine Ev.step (f := fun k => impl_prime.l0 k n (x + 1)) (fun k => ?_) (ih (x + 1) (by omega) (by omega) (by omega) ?_)
        · rw [impl_prime.l0, w64 (by omega) (by omega), if_pos hle, if_neg (by omega), if_neg (fun e => hdv (Int.dvd_of_tmod_eq_zero e)), w64 (by omega) (by omega)]
        · intro y h1 h2'
          by_cases e : y = x
          · subst e; exact hdv
          · exact h y h1 (by omega)
    · refine Ev.step (f := fun _ => some true) (fun k => ?_) ?_
      · rw [impl_prime.l0, w64 (by omega) (by omega), if_neg hle, decide_eq_true (by omega)]
      · rw [prB_true.2 ⟨pr_of_none h2 x (by omega) (by omega) h, hn⟩]; exact Ev.now _
theorem impl_PrimeIs_ev (n : Int) : Ev (fun k => impl_PrimeIs.f k n) (prB n) := by
  unfold impl_PrimeIs.f
  by_cases h5 : n ≤ 5000
  · simp only [if_pos h5]
    refine Ev.bind (a := prB n) ?_ (Ev.now _)
    unfold impl_prime.f
    by_cases h : 2 ≤ n
    · exact impl_prime_l0 h h5 (n - 2).toNat 2 (by omega) (by omega) (by omega) fun y h1 h2 => by omega
    · refine Ev.step (f := fun _ => some false) (fun k => ?_) ?_
      · rw [impl_prime.l0, w64 (by omega) (by omega), if_neg (by omega), decide_eq_false (by omega)]
      · rw [prB_false.2 fun hp => h hp.1.1]; exact Ev.now _
  · simp only [if_neg h5]
    rw [prB_false.2 fun hp => h5 hp.2]
    exact Ev.now _
theorem spec_l1Mod_eq {n m : Int} (h0 : 0 < m) (h1 : m ≤ 1000000000) : spec_l1Mod.f n m = some (n % m) := by
  unfold spec_l1Mod.f; rw [if_neg (by omega), rest_form h0 h1]
theorem impl_rest_eq {n m : Int} (h0 : 0 < m) (h1 : m ≤ 1000000000) : impl_rest.f n m = some (n % m) := by
  unfold impl_rest.f; rw [if_neg (by omega), rest_form h0 h1]
theorem spec_l1Power_l0 {m : Int} (hm : 1 ≤ m) (hm' : m ≤ 5000) : ∀ (f : Nat) (b e o : Int), 0 ≤ e → e ≤ f → e ≤ 1000000000 → 0 ≤ b → b < m → 0 ≤ o → o < m → Ev (fun k => spec_l1Power.l0 k b e m o) (o * b ^ e.toNat % m) := by
  intro f
  induction f with
  | zero =>
    intro b e o he hf hE hb hb' ho ho'
    have : e = 0 := by omega
    subst this
    have e1 : o * b ^ (0 : Int).toNat % m = o := by
      show o * b ^ 0 % m = o
      rw [Int.pow_zero, Int.mul_one, Int.emod_eq_of_lt ho ho']
    rw [e1]
    refine Ev.step (f := fun _ => some o) (fun k => ?_) (Ev.now _)
    rw [spec_l1Power.l0, if_neg (by omega)]
  | succ f ih =>
    intro b e o he hf hE hb hb' ho ho'
    by_cases h0 : e = 0
    · subst h0
      have e1 : o * b ^ (0 : Int).toNat % m = o := by
        show o * b ^ 0 % m = o
        rw [Int.pow_zero, Int.mul_one, Int.emod_eq_of_lt ho ho']
      rw [e1]
      refine Ev.step (f := fun _ => some o) (fun k => ?_) (Ev.now _)
      rw [spec_l1Power.l0, if_neg (by omega)]
    · have bb := mul_bd hb (show b ≤ 5000 by omega) hb (show b ≤ 5000 by omega)
      have ob := mul_bd ho (show o ≤ 5000 by omega) hb (show b ≤ 5000 by omega)
      have r1 := emod_bd (b * b) (show 0 < m by omega)
      have r2 := emod_bd (o * b) (show 0 < m by omega)
      have hd : Int.tdiv e 2 = e / 2 := Int.tdiv_eq_ediv_of_nonneg he
      by_cases h1 : e % 2 = 1
      · have := ih (b * b % m) (e / 2) (o * b % m) (by omega) (by omega) (by omega) r1.1 r1.2 r2.1 r2.2
        have e1 : o * b % m * (b * b % m) ^ (e / 2).toNat % m = o * b ^ e.toNat % m := by
          have ee : e.toNat = 2 * (e / 2).toNat + 1 := by omega
          rw [Int.mul_emod, Int.emod_emod, emod_pow, ← Int.mul_emod, ee, Int.pow_succ, Int.pow_mul, pow_two']
          congr 1; grind
        rw [e1] at this
        refine Ev.step (fun k => ?_) this
        rw [spec_l1Power.l0, if_pos (by omega), tm he, if_pos h1, if_neg (by omega), w64 (x := b * b) (by omega) (by omega), tm bb.1, hd, w64 (x := e / 2) (by omega) (by omega), w64 (x := o * b) (by omega) (by omega), tm ob.1]
      · have := ih (b * b % m) (e / 2) o (by omega) (by omega) (by omega) r1.1 r1.2 ho ho'
        have e1 : o * (b * b % m) ^ (e / 2).toNat % m = o * b ^ e.toNat % m := by
          have ee : e.toNat = 2 * (e / 2).toNat := by omega
          rw [Int.mul_emod, emod_pow, ← Int.mul_emod, ee, Int.pow_mul, pow_two']
        rw [e1] at this
        refine Ev.step (fun k => ?_) this
        rw [spec_l1Power.l0, if_pos (by omega), tm he, if_neg h1, if_neg (by omega), w64 (x := b * b) (by omega) (by omega), tm bb.1, hd, w64 (x := e / 2) (by omega) (by omega)]
theorem spec_l1Power_ev {n e m : Int} (he : 0 ≤ e) (he' : e ≤ 1000000000) (hm : 1 ≤ m) (hm' : m ≤ 5000) : Ev (fun k => spec_l1Power.f k n e m) (n ^ e.toNat % m) := by
  unfold spec_l1Power.f
  simp only [if_neg (show ¬ m = 0 by omega), spec_l1Mod_eq (n := n) (show 0 < m by omega) (by omega), Option.bind_some]
  have r1 := emod_bd n (show 0 < m by omega)
  have r2 := emod_bd 1 (show 0 < m by omega)
  have := spec_l1Power_l0 hm hm' e.toNat (n % m) e (1 % m) he (by omega) he' r1.1 r1.2 r2.1 r2.2
  have e1 : 1 % m * (n % m) ^ e.toNat % m = n ^ e.toNat % m := by
    rw [Int.mul_emod, Int.emod_emod, emod_pow, ← Int.mul_emod, Int.one_mul]
  rw [e1] at this
  exact this
theorem impl_residue_l0 {n p : Int} (hp : Pr p) (h2 : p ≠ 2) (hp' : p ≤ 5000) (hn : ¬ p ∣ n) : ∀ (d : Nat) (x : Int), 1 ≤ x → x + d = p / 2 + 1 → (∀ y, 1 ≤ y → y < x → y * y % p ≠ n % p) → Ev (fun k => impl_residue.l0 k p (n % p) x) (leg n p) := by
  have h0 := hp.1
  intro d
  induction d with
  | zero =>
    intro x hx hd h
    have : leg n p = -1 := leg_neg hn (fun hr => by
      obtain ⟨y, h1, h3, h4⟩ := (isRes_half hp h2 hn).1 hr
      exact h y h1 (by omega) h4)
    rw [this]
    refine Ev.step (f := fun _ => some (-1)) (fun k => ?_) (Ev.now _)
    rw [impl_residue.l0, tdiv_half (by omega), w64 (by omega) (by omega), if_neg (by omega)]
  | succ d ih =>
    intro x hx hd h
    have hb := mul_bd (show 0 ≤ x by omega) (show x ≤ 5000 by omega) (show 0 ≤ x by omega) (show x ≤ 5000 by omega)
    by_cases e : x * x % p = n % p
    · have : leg n p = 1 := leg_one hn ((isRes_half hp h2 hn).2 ⟨x, hx, by omega, e⟩)
      rw [this]
      refine Ev.step (f := fun _ => some 1) (fun k => ?_) (Ev.now _)
      rw [impl_residue.l0, tdiv_half (by omega), w64 (x := p / 2) (by omega) (by omega), if_pos (by omega), if_neg (by omega), w64 (by omega) (by omega), tm hb.1, if_pos e]
    · refine Ev.step (fun k => ?_) (ih (x + 1) (by omega) (by omega) fun y h1 h3 => ?_)
      · rw [impl_residue.l0, tdiv_half (by omega), w64 (x := p / 2) (by omega) (by omega), if_pos (by omega), if_neg (by omega), w64 (x := x * x) (by omega) (by omega), tm hb.1, if_neg e, w64 (by omega) (by omega)]
      · by_cases e' : y = x
        · subst e'; exact e
        · exact h y h1 (by omega)
theorem impl_residue_ev {n p : Int} (hp : Pr p) (h2 : p ≠ 2) (hp' : p ≤ 5000) : Ev (fun k => impl_residue.f k n p) (leg n p) := by
  have h0 := hp.1
  unfold impl_residue.f
  simp only [impl_rest_eq (n := n) (show 0 < p by omega) (by omega), Option.bind_some]
  by_cases h : n % p = 0
  · simp only [if_pos h]; rw [leg_zero (Int.dvd_of_emod_eq_zero h)]; exact Ev.now _
  · simp only [if_neg h]
    exact impl_residue_l0 hp h2 hp' (fun hd => h (Int.emod_eq_zero_of_dvd hd)) (p / 2).toNat 1 (by omega) (by omega) (fun y h1 h3 => by omega)
theorem spec_l1Residue_ev {n p : Int} (hp : Pr p) (h2 : p ≠ 2) (hp' : p ≤ 5000) : Ev (fun k => spec_l1Residue.f k n p) (leg n p) := by
  have h0 := hp.1
  obtain ⟨h, hh, h1⟩ := odd_prime hp h2
  unfold spec_l1Residue.f
  have e : Int.tdiv (p - 1) 2 = (h : Int) := by
    rw [tdiv_half (by omega)]; omega
  simp only [w64 (x := p - 1) (by omega) (by omega), e, w64 (x := (h : Int)) (by omega) (by omega)]
  refine Ev.bind (spec_l1Power_ev (n := n) (e := h) (by omega) (by omega) (by omega) hp') ?_
  rw [Int.toNat_natCast]
  have hm : leg n p % p = n ^ h % p := Int.emod_eq_emod_iff_emod_sub_eq_zero.2 (Int.emod_eq_zero_of_dvd (leg_euler hp h hh n))
  rw [← hm]
  rcases leg_cases n p with h | h | h
  · rw [h, Int.zero_emod]; simp only [if_neg (show ¬ (0 : Int) = p - 1 by omega)]; exact Ev.now _
  · rw [h, Int.emod_eq_of_lt (by omega) (by omega)]; simp only [if_neg (show ¬ (1 : Int) = p - 1 by omega)]; exact Ev.now _
  · have e2 : (-1 : Int) % p = p - 1 := by
      rw [← Int.add_emod_right, Int.emod_eq_of_lt (by omega) (by omega)]; omega
    rw [h, e2]; simp only [if_true]; exact Ev.now _
theorem impl_nonResidue_l0 {p : Int} (hp : Pr p) (h2 : p ≠ 2) (hp' : p ≤ 5000) : ∀ (d : Nat) (x : Int), 2 ≤ x → x + d = nrOf p → Ev (fun k => impl_nonResidue.l0 k p x) (nrOf p) := by
  obtain ⟨n1, n2, n3, n4⟩ := nr_spec hp h2
  intro d
  induction d with
  | zero =>
    intro x hx hd
    have : x = nrOf p := by omega
    subst this
    refine Ev.step (f := fun k => (impl_residue.f k (nrOf p) p).bind fun t => if t = 1 then impl_nonResidue.l0 k p (wrap64 (nrOf p + 1)) else some (nrOf p)) (fun k => ?_) (Ev.bind (impl_residue_ev hp h2 hp') ?_)
    · rw [impl_nonResidue.l0]
    · rw [n3]; simp only [if_neg (show ¬ (-1 : Int) = 1 by omega)]; exact Ev.now _
  | succ d ih =>
    intro x hx hd
    refine Ev.step (f := fun k => (impl_residue.f k x p).bind fun t => if t = 1 then impl_nonResidue.l0 k p (wrap64 (x + 1)) else some x) (fun k => ?_) (Ev.bind (impl_residue_ev hp h2 hp') ?_)
    · rw [impl_nonResidue.l0]
    · rw [n4 x hx (by omega), w64 (by omega) (by omega)]; simp only [if_true]; exact ih (x + 1) (by omega) (by omega)
theorem impl_nonResidue_ev {p : Int} (hp : Pr p) (h2 : p ≠ 2) (hp' : p ≤ 5000) : Ev (fun k => impl_nonResidue.f k p) (nrOf p) := by
  obtain ⟨n1, n2, n3, n4⟩ := nr_spec hp h2
  exact impl_nonResidue_l0 hp h2 hp' (nrOf p - 2).toNat 2 (by omega) (by omega)
theorem spec_l1None_l0 {p : Int} (hp : Pr p) (h2 : p ≠ 2) (hp' : p ≤ 5000) : ∀ (d : Nat) (x : Int), 2 ≤ x → x + d = nrOf p → Ev (fun k => spec_l1None.l0 k p x) (nrOf p) := by
  obtain ⟨n1, n2, n3, n4⟩ := nr_spec hp h2
  intro d
  induction d with
  | zero =>
    intro x hx hd
    have : x = nrOf p := by omega
    subst this
    refine Ev.step (f := fun k => (spec_l1Residue.f k (nrOf p) p).bind fun t => if t = -1 then some (nrOf p) else spec_l1None.l0 k p (wrap64 (nrOf p + 1))) (fun k => ?_) (Ev.bind (spec_l1Residue_ev hp h2 hp') ?_)
    · rw [spec_l1None.l0]
    · rw [n3]; simp only [if_true]; exact Ev.now _
  | succ d ih =>
    intro x hx hd
    refine Ev.step (f := fun k => (spec_l1Residue.f k x p).bind fun t => if t = -1 then some x else spec_l1None.l0 k p (wrap64 (x + 1))) (fun k => ?_) (Ev.bind (spec_l1Residue_ev hp h2 hp') ?_)
    · rw [spec_l1None.l0]
    · rw [n4 x hx (by omega), w64 (by omega) (by omega)]; simp only [if_neg (show ¬ (1 : Int) = -1 by omega)]; exact ih (x + 1) (by omega) (by omega)
theorem spec_l1None_ev {p : Int} (hp : Pr p) (h2 : p ≠ 2) (hp' : p ≤ 5000) : Ev (fun k => spec_l1None.f k p) (nrOf p) := by
  obtain ⟨n1, n2, n3, n4⟩ := nr_spec hp h2
  exact spec_l1None_l0 hp h2 hp' (nrOf p - 2).toNat 2 (by omega) (by omega)
theorem impl_ResidueIs_ev (n p : Int) : Ev (fun k => impl_ResidueIs.f k n p) (resOf n p) := by
  unfold impl_ResidueIs.f resOf
  simp only [impl_isNumber_eq, Option.bind_some]
  by_cases h : numB n = true
  · simp only [if_pos h]
    refine Ev.bind (impl_PrimeIs_ev p) ?_
    by_cases hp : prB p = true
    · simp only [if_pos hp]
      have hp' := prB_true.1 hp
      by_cases h2 : p = 2
      · simp only [if_pos h2]; rw [if_neg (fun h => h.2.2 h2)]; exact Ev.now _
      · simp only [if_neg h2]; rw [if_pos ⟨h, hp, h2⟩]
        exact Ev.bind (impl_residue_ev hp'.1 h2 hp'.2) (Ev.now _)
    · simp only [if_neg hp]; rw [if_neg (fun h => hp h.2.1)]; exact Ev.now _
  · simp only [if_neg h]; rw [if_neg (fun h' => h h'.1)]; exact Ev.now _
theorem spec_NonResidue_ev (p : Int) : Ev (fun k => spec_NonResidue.f k p) (nonOf p) := by
  unfold spec_NonResidue.f nonOf
  refine Ev.bind (spec_PrimeIs_ev p) ?_
  by_cases hp : prB p = true
  · simp only [if_pos hp]
    have hp' := prB_true.1 hp
    by_cases h2 : p = 2
    · simp only [if_pos h2]; rw [if_neg (fun h => h.2 h2)]; exact Ev.now _
    · simp only [if_neg h2]; rw [if_pos ⟨hp, h2⟩]
      exact Ev.bind (spec_l1None_ev hp'.1 h2 hp'.2) (Ev.now _)
  · simp only [if_neg hp]; rw [if_neg (fun h => hp h.1)]; exact Ev.now _
theorem impl_NonResidue_ev (p : Int) : Ev (fun k => impl_NonResidue.f k p) (nonOf p) := by
  unfold impl_NonResidue.f nonOf
  refine Ev.bind (impl_PrimeIs_ev p) ?_
  by_cases hp : prB p = true
  · simp only [if_pos hp]
    have hp' := prB_true.1 hp
    by_cases h2 : p = 2
    · simp only [if_pos h2]; rw [if_neg (fun h => h.2 h2)]; exact Ev.now _
    · simp only [if_neg h2]; rw [if_pos ⟨hp, h2⟩]
      exact Ev.bind (impl_nonResidue_ev hp'.1 h2 hp'.2) (Ev.now _)
  · simp only [if_neg hp]; rw [if_neg (fun h => hp h.1)]; exact Ev.now _
theorem rd_pre (p : List Int) (a : Int) (l : List Int) : rd (p ++ a :: l) (p.length : Int) = a := by
  unfold rd
  rw [Int.toNat_natCast, List.getD_eq_getElem?_getD, List.getElem?_append_right (Nat.le_refl _)]
  simp
theorem set_pre (p : List Int) (a : Int) (l : List Int) (c : Int) : (p ++ a :: l).set ((p.length : Int)).toNat c = p ++ c :: l := by
  rw [Int.toNat_natCast, List.set_append_right _ _ (Nat.le_refl _)]
  simp
theorem spec_l6Open_eq {l : List Int} (h : ∀ x ∈ l, (Lit.int .u8 x).wf = true) : ∃ b, GB b ∧ spec_l6Open.f l = some (b, 0) := by
  unfold spec_l6Open.f
  by_cases h1 : (l.length : Int) > 2000
  · rw [if_pos h1, if_pos (by omega)]
    exact ⟨l.take 2000, ⟨by simp; omega, fun x hx => u8_bd (h x (List.mem_of_mem_take hx))⟩, rfl⟩
  · rw [if_neg h1]
    exact ⟨l, ⟨by omega, fun x hx => u8_bd (h x hx)⟩, rfl⟩
theorem rd_bd {b : List Int} (hb : GB b) (i : Int) : 0 ≤ rd b i ∧ rd b i ≤ 255 := by
  unfold rd
  rw [List.getD_eq_getElem?_getD]
  cases h : b[i.toNat]? with
  | none => simp
  | some x => exact hb.2 x (List.mem_of_getElem? h)
theorem pick_ev {b : List Int} (hb : GB b) {p n : Int} (hp : 0 ≤ p) (hp' : p ≤ 1000) (hn : 1 ≤ n) (hn' : n ≤ 1000) : ∃ v, 0 ≤ v ∧ v < n ∧ Ev (fun k => spec_l6Rd_pick.f k b p n) (v, p + 1) := by
  have hl := hb.1
  have e1 : wrap64 (p + 1) = p + 1 := w64 (by omega) (by omega)
  have e2 : wrap64 (p + 1 - 1) = p := by rw [w64 (by omega) (by omega)]; omega
  unfold spec_l6Rd_pick.f
  simp only [if_neg (show ¬ n < 1 by omega), e1]
  by_cases h0 : b.length = 0
  · refine ⟨0, by omega, by omega, Ev.step (f := fun _ => some (0, p + 1)) (fun k => ?_) (Ev.now _)⟩
    rw [spec_l6Rd_pick.j0, if_pos (by simp [h0])]
  · have hL : ((b.length : Int) == 0) = false := by rw [beq_eq_false_iff_ne]; omega
    rw [hL]
    by_cases h1 : p < (b.length : Int)
    · have hr := rd_bd hb p
      have m := emod_bd (rd b p) (show 0 < n by omega)
      refine ⟨rd b p % n, m.1, m.2, Ev.step (f := fun _ => some (rd b p % n, p + 1)) (fun k => ?_) (Ev.now _)⟩
      rw [spec_l6Rd_pick.j0, if_neg (by simp), e2, if_pos h1, if_pos hp, if_neg (by omega), w64 (x := rd b p) (by omega) (by omega), tm hr.1]
    · have m1 := emod_bd p (show (0 : Int) < b.length by omega)
      have t1 : Int.tmod p (b.length : Int) = p % (b.length : Int) := tm hp
      have e7 : wrap64 (wrap64 (p * 7) + 3) = p * 7 + 3 := by rw [w64 (x := p * 7) (by omega) (by omega), w64 (by omega) (by omega)]
      have t2 : Int.tmod (p * 7 + 3) (b.length : Int) = (p * 7 + 3) % (b.length : Int) := tm (by omega)
      have m2 := emod_bd (p * 7 + 3) (show (0 : Int) < b.length by omega)
      have r1 := rd_bd hb (p % (b.length : Int))
      have r2 := rd_bd hb ((p * 7 + 3) % (b.length : Int))
      have d1 : Int.tdiv p (b.length : Int) = p / (b.length : Int) := Int.tdiv_eq_ediv_of_nonneg hp
      have d2 : 0 ≤ p / (b.length : Int) ∧ p / (b.length : Int) ≤ p := ⟨Int.ediv_nonneg hp (by omega), Int.ediv_le_self _ hp⟩
      have key : ∃ v, 0 ≤ v ∧ v < n ∧ ∀ k, spec_l6Rd_pick.j0 (k + 1) n false b (p + 1) = some (v, p + 1) := by
        generalize hq1 : rd b (p % (b.length : Int)) = q1 at r1
        generalize hq2 : rd b ((p * 7 + 3) % (b.length : Int)) = q2 at r2
        generalize hq3 : p / (b.length : Int) = q3 at d1 d2
        have hx0 : 0 ≤ Go.bits .xor .i64 (q1 * 131 + q2 * 1117 + p * 29 + q3 * 53) ((q1 * 131 + q2 * 1117 + p * 29 + q3 * 53) / 64) := xor_nonneg (by omega) (by omega) (by omega) (by omega)
        refine ⟨_, (emod_bd (Go.bits .xor .i64 (q1 * 131 + q2 * 1117 + p * 29 + q3 * 53) ((q1 * 131 + q2 * 1117 + p * 29 + q3 * 53) / 64)) (show 0 < n by omega)).1, (emod_bd _ (show 0 < n by omega)).2, fun k => ?_⟩
        rw [spec_l6Rd_pick.j0, if_neg (by simp), e2, if_neg h1, if_neg (by omega), t1, if_pos m1.1, if_pos m1.2, e7, t2, if_pos m2.1, if_pos m2.2, if_neg (by omega), hq1, hq2, d1,
          w64 (x := q1) (by omega) (by omega), w64 (x := q2) (by omega) (by omega), w64 (x := q1 * 131) (by omega) (by omega), w64 (x := q2 * 1117) (by omega) (by omega), w64 (x := q1 * 131 + q2 * 1117) (by omega) (by omega),
          w64 (x := p * 29) (by omega) (by omega), w64 (x := q1 * 131 + q2 * 1117 + p * 29) (by omega) (by omega), w64 (x := q3) (by omega) (by omega), w64 (x := q3 * 53) (by omega) (by omega),
          w64 (x := q1 * 131 + q2 * 1117 + p * 29 + q3 * 53) (by omega) (by omega),
          Int.tdiv_eq_ediv_of_nonneg (a := q1 * 131 + q2 * 1117 + p * 29 + q3 * 53) (by omega), w64 (x := (q1 * 131 + q2 * 1117 + p * 29 + q3 * 53) / 64) (by omega) (by omega), tm hx0]
      obtain ⟨v, h2, h3, h4⟩ := key
      exact ⟨v, h2, h3, Ev.step (f := fun _ => some (v, p + 1)) h4 (Ev.now _)⟩
theorem DrawNonResidue_ev {l : List Int} (h : ∀ x ∈ l, (Lit.int .u8 x).wf = true) : ∃ p, (2 ≤ p ∧ p ≤ 73) ∧ Ev (fun k => spec_DrawNonResidue.f k l) p := by
  obtain ⟨bs, hb, e⟩ := spec_l6Open_eq h
  unfold spec_DrawNonResidue.f
  simp only [e, Option.bind_some]
  obtain ⟨u, b1, b2, b3⟩ := pick_ev hb (p := 0) (n := 12) (by omega) (by omega) (by omega) (by omega)
  have key : 2 ≤ rd [3, 5, 7, 11, 13, 17, 23, 41, 71, 2, 9, 73] u ∧ rd [3, 5, 7, 11, 13, 17, 23, 41, 71, 2, 9, 73] u ≤ 73 := by
    have : u = 0 ∨ u = 1 ∨ u = 2 ∨ u = 3 ∨ u = 4 ∨ u = 5 ∨ u = 6 ∨ u = 7 ∨ u = 8 ∨ u = 9 ∨ u = 10 ∨ u = 11 := by omega
    rcases this with rfl | rfl | rfl | rfl | rfl | rfl | rfl | rfl | rfl | rfl | rfl | rfl <;> decide
  refine ⟨_, key, Ev.bind b3 ?_⟩
  simp only [if_pos b1]
  rw [if_pos (by simp; omega)]
  exact Ev.now _
theorem nr_prime {p : Int} (hp : Pr p) (h2 : p ≠ 2) : Pr (nrOf p) := by
  obtain ⟨n1, n2, n3, n4⟩ := nr_spec hp h2
  refine ⟨n1, fun d d1 d2 hd => ?_⟩
  obtain ⟨c, hc⟩ := hd
  have hc2 : 2 ≤ c := by
    rcases Int.lt_or_le c 2 with h | h
    · rcases Int.lt_or_le c 1 with h' | h'
      · have := Int.mul_nonneg (show 0 ≤ d by omega) (show 0 ≤ -c by omega)
        rw [Int.mul_neg] at this; omega
      · have : c = 1 := by omega
        rw [this, Int.mul_one] at hc; omega
    · exact h
  have hcn : c < nrOf p := by
    have := Int.mul_le_mul_of_nonneg_right d1 (show 0 ≤ c by omega); omega
  have h1 := n4 d d1 d2
  have h3 := n4 c hc2 hcn
  rw [hc, leg_mul hp h2, h1, h3] at n3
  cases n3
theorem FnNonResidue_l0 {p : Int} (hp : prB p = true) (h2 : p ≠ 2) : ∀ (d : Nat) (x : Int), 1 ≤ x → x + d = nrOf p → Ev (fun k => laws_FnNonResidue.l0 k p (nrOf p) x) true := by
  have hpp := prB_true.1 hp
  obtain ⟨n1, n2, n3, n4⟩ := nr_spec hpp.1 h2
  have hres : ∀ x, 1 ≤ x → x ≤ nrOf p → resOf x p = leg x p := fun x h1 h3 => by
    unfold resOf; rw [if_pos ⟨numB_true.2 ⟨by omega, by omega⟩, hp, h2⟩]
  intro d
  induction d with
  | zero =>
    intro x hx hd
    have hpr : prB (nrOf p) = true := prB_true.2 ⟨nr_prime hpp.1 h2, by omega⟩
    refine Ev.step (f := fun k => (impl_ResidueIs.f k (nrOf p) p).bind fun t => if t = -1 then (impl_PrimeIs.f k (nrOf p)).bind fun t => some t else some false) (fun k => ?_) (Ev.bind (impl_ResidueIs_ev (nrOf p) p) ?_)
    · rw [laws_FnNonResidue.l0, if_neg (by omega)]
    · rw [hres _ (by omega) (by omega), n3]
      simp only [if_true]
      refine Ev.bind (impl_PrimeIs_ev (nrOf p)) ?_
      rw [hpr]; exact Ev.now _
  | succ d ih =>
    intro x hx hd
    have hl : leg x p = 1 := by
      by_cases e : x = 1
      · rw [e]; exact leg_of_one hpp.1
      · exact n4 x (by omega) (by omega)
    refine Ev.step (f := fun k => (impl_ResidueIs.f k x p).bind fun t => if t = 1 then laws_FnNonResidue.l0 k p (nrOf p) (x + 1) else some false) (fun k => ?_) (Ev.bind (impl_ResidueIs_ev x p) ?_)
    · rw [laws_FnNonResidue.l0, if_pos (by omega), w64 (x := x + 1) (by omega) (by omega)]
    · rw [hres _ (by omega) (by omega), hl]
      simp only [if_true]
      exact ih (x + 1) (by omega) (by omega)
theorem FnNonResidue : laws_FnNonResidue.Pure := by
  intro l _ _ hl
  refine Ev.rounds ?_
  unfold laws_FnNonResidue.f
  by_cases hlen : (l.length : Int) > 1048576
  · simp only [if_pos hlen]; exact Ev.now _
  · simp only [if_neg hlen]
    obtain ⟨p, dp, hev⟩ := DrawNonResidue_ev hl
    refine Ev.bind hev (Ev.bind (impl_NonResidue_ev p) (Ev.bind (spec_NonResidue_ev p) ?_))
    simp only [bne_self_eq_false, if_true, Bool.false_eq_true, if_false]
    by_cases hc : prB p = true ∧ p ≠ 2
    · have hv : nonOf p = (nrOf p, true) := by unfold nonOf; rw [if_pos hc]
      obtain ⟨n1, n2, n3, n4⟩ := nr_spec (prB_true.1 hc.1).1 hc.2
      rw [hv]
      refine Ev.step (fun k => by rw [laws_FnNonResidue.j0, if_neg (by simp)]) ?_
      exact FnNonResidue_l0 hc.1 hc.2 (nrOf p - 1).toNat 1 (by omega) (by omega)
    · have hv : nonOf p = (0, false) := by unfold nonOf; rw [if_neg hc]
      rw [hv]
      refine Ev.step (f := fun _ => some true) (fun k => ?_) (Ev.now _)
      rw [laws_FnNonResidue.j0, if_pos (by simp), if_pos (by simp), beq_self_eq_true]

end Go.Proofs.Ytnbjnlbaoogbmaa.Pure
