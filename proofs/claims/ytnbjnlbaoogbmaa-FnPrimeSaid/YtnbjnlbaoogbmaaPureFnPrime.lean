/- At every draw the program's PrimeIs is the reference's; up to a prime each smaller number from 1 to 50 has the power 1 and no divisor in common, and the prime's only prime is itself.
No condition beyond the given statement. The printed functions are tied to plain arithmetic one by one; the law follows at the end. -/
import Derived.Test.YtnbjnlbaoogbmaaWSized
import Derived.Test.YtnbjnlbaoogbmaaPFnPrimex3
import Derived.Test.YtnbjnlbaoogbmaaM9
set_option linter.unusedVariables false
set_option linter.unusedSimpArgs false
namespace Go.Proofs.Ytnbjnlbaoogbmaa
open Go.ChangeShapes Go.WideShapes
/-- The words' lemma on the length of a slice, under the name by which the row of this law calls it. -/
theorem PrintWords.sized_ints {H : Type} {enc : TypeId × Value → H} {P : Program} {W : World} {base : Nat} {spare : Nat → Bool} {held : Bool} {t e : TypeId} {k : IntKind} {a : Option Addr} {len cap : Nat} {d : DataW H} {ps : List MemPlace} {ts : List TypeId} {ds : List (DataW H)} {j : Nat}
    (hsz : (DataW.weightsEach P ts ds).all (· ≤ reachBytes) = true) (ht : ts[j]? = some t) (hd : ds[j]? = some d) (hu : P.underlying t = some (.slice e)) (he : P.underlying e = some (.int k)) (hc : P.cellsOf e = 1) {B : Nat} (hB : P.bytesOf e = B)
    (h : DataW.Trod enc P W base spare held t (.slice a len cap) d ps) : len * B ≤ 140737488351232 :=
  Go.Proofs.YtnbjnlbaoogbmaaW.PrintWords.sized_ints hsz ht hd hu he hc hB h
end Go.Proofs.Ytnbjnlbaoogbmaa
namespace Go.Proofs.Ytnbjnlbaoogbmaa.Pure
open Go.RowKit Go.Proofs.Ytnbjnlbaoogbmaa.PFnPrime Go.Proofs.YtnbjnlbaoogbmaaW.PrintWords Go.Proofs.YtnbjnlbaoogbmaaW.PrintLast Go.Proofs.YtnbjnlbaoogbmaaW.PrintMore Go.Proofs.LG

theorem spec_l6In_eq (a b c : Int) : spec_l6In.f a b c = some (decide (b ≤ a ∧ a ≤ c)) := by
  unfold spec_l6In.f
  by_cases h : a ≥ b
  · rw [if_pos h]; congr 1; rw [decide_eq_decide]; omega
  · rw [if_neg h]; congr 1; symm; rw [decide_eq_false_iff_not]; omega
theorem impl_isNumber_eq (a : Int) : impl_isNumber.f a = some (numB a) := by
  unfold impl_isNumber.f numB
  by_cases h : a ≥ -5000
  · rw [if_pos h]; congr 1; rw [decide_eq_decide]; omega
  · rw [if_neg h]; congr 1; symm; rw [decide_eq_false_iff_not]; omega
theorem spec_PrimeIs_l0 {n : Int} (h2 : 2 ≤ n) (hn : n ≤ 5000) : ∀ (d : Nat) (x : Int), 2 ≤ x → x ≤ n → n - x ≤ d → (∀ y, 2 ≤ y → y < x → ¬ y ∣ n) → Ev (fun k => spec_PrimeIs.l0 k n x) (prB n) := by
  intro d
  induction d with
  | zero =>
    intro x hx hxn hd h
    have := sq_gt hx (show n ≤ x by omega)
    have hb := mul_bd (show 0 ≤ x by omega) (show x ≤ 5000 by omega) (show 0 ≤ x by omega) (show x ≤ 5000 by omega)
    refine Ev.step (f := fun _ => some true) (fun k => ?_) ?_
    · rw [spec_PrimeIs.l0, w64 (by omega) (by omega), if_neg (by omega)]
    · rw [prB_true.2 ⟨pr_of_none h2 x (by omega) (by omega) h, hn⟩]; exact Ev.now _
  | succ d ih =>
    intro x hx hxn hd h
    have hb := mul_bd (show 0 ≤ x by omega) (show x ≤ 5000 by omega) (show 0 ≤ x by omega) (show x ≤ 5000 by omega)
    by_cases hle : x * x ≤ n
    · by_cases hdv : x ∣ n
      · have hlt : x < n := by
          have := sq_gt hx (Int.le_refl x); omega
        refine Ev.step (f := fun _ => some false) (fun k => ?_) ?_
        · rw [spec_PrimeIs.l0, w64 (by omega) (by omega), if_pos hle, if_neg (by omega), if_pos (Int.tmod_eq_zero_of_dvd hdv)]
        · rw [prB_false.2 fun hp => hp.1.2 x hx hlt hdv]; exact Ev.now _
      · have hlt : x < n := by
          have := sq_gt hx (Int.le_refl x); omega
        refine Ev.step (f := fun k => spec_PrimeIs.l0 k n (x + 1)) (fun k => ?_) (ih (x + 1) (by omega) (by omega) (by omega) ?_)
        · rw [spec_PrimeIs.l0, w64 (by omega) (by omega), if_pos hle, if_neg (by omega), if_neg (fun e => hdv (Int.dvd_of_tmod_eq_zero e)), w64 (by omega) (by omega)]
        · intro y h1 h2'
          by_cases e : y = x
          · subst e; exact hdv
          · exact h y h1 (by omega)
    · refine Ev.step (f := fun _ => some true) (fun k => ?_) ?_
      · rw [spec_PrimeIs.l0, w64 (by omega) (by omega), if_neg hle]
      · rw [prB_true.2 ⟨pr_of_none h2 x (by omega) (by omega) h, hn⟩]; exact Ev.now _
theorem spec_PrimeIs_ev (n : Int) : Ev (fun k => spec_PrimeIs.f k n) (prB n) := by
  unfold spec_PrimeIs.f
  simp only [spec_l6In_eq, Option.bind_some]
  by_cases h : 2 ≤ n ∧ n ≤ 5000
  · rw [decide_eq_true h]
    simp only [if_true]
    exact spec_PrimeIs_l0 h.1 h.2 (n - 2).toNat 2 (by omega) (by omega) (by omega) fun y h1 h2 => by omega
  · rw [decide_eq_false h]
    rw [prB_false.2 fun hp => h ⟨hp.1.1, hp.2⟩]
    exact Ev.now _
theorem impl_prime_l0 {n : Int} (h2 : 2 ≤ n) (hn : n ≤ 5000) : ∀ (d : Nat) (x : Int), 2 ≤ x → x ≤ n → n - x ≤ d → (∀ y, 2 ≤ y → y < x → ¬ y ∣ n) → Ev (fun k => impl_prime.l0 k n x) (prB n) := by
  intro d
  induction d with
  | zero =>
    intro x hx hxn hd h
    have := sq_gt hx (show n ≤ x by omega)
    have hb := mul_bd (show 0 ≤ x by omega) (show x ≤ 5000 by omega) (show 0 ≤ x by omega) (show x ≤ 5000 by omega)
    refine Ev.step (f := fun _ => some true) (fun k => ?_) ?_
    · rw [impl_prime.l0, w64 (by omega) (by omega), if_neg (by omega), decide_eq_true (by omega)]
    · rw [prB_true.2 ⟨pr_of_none h2 x (by omega) (by omega) h, hn⟩]; exact Ev.now _
  | succ d ih =>
    intro x hx hxn hd h
    have hb := mul_bd (show 0 ≤ x by omega) (show x ≤ 5000 by omega) (show 0 ≤ x by omega) (show x ≤ 5000 by omega)
    by_cases hle : x * x ≤ n
    · by_cases hdv : x ∣ n
      · have hlt : x < n := by
          have := sq_gt hx (Int.le_refl x); omega
        refine Ev.step (f := fun _ => some false) (fun k => ?_) ?_
        · rw [impl_prime.l0, w64 (by omega) (by omega), if_pos hle, if_neg (by omega), if_pos (Int.tmod_eq_zero_of_dvd hdv)]
        · rw [prB_false.2 fun hp => hp.1.2 x hx hlt hdv]; exact Ev.now _
      · have hlt : x < n := by
          have := sq_gt hx (Int.le_refl x); omega
        refine Ev.step (f := fun k => impl_prime.l0 k n (x + 1)) (fun k => ?_) (ih (x + 1) (by omega) (by omega) (by omega) ?_)
        · rw [impl_prime.l0, w64 (by omega) (by omega), if_pos hle, if_neg (by omega), if_neg (fun e => hdv (Int.dvd_of_tmod_eq_zero e)), w64 (by omega) (by omega)]
        · intro y h1 h2'
          by_cases e : y = x
          · subst e; exact hdv
          · exact h y h1 (by omega)
    · refine Ev.step (f := fun _ => some true) (fun k => ?_) ?_
      · rw [impl_prime.l0, w64 (by omega) (by omega), if_neg hle, decide_eq_true (by omega)]
      · rw [prB_true.2 ⟨pr_of_none h2 x (by omega) (by omega) h, hn⟩]; exact Ev.now _
theorem impl_PrimeIs_ev (n : Int) : Ev (fun k => impl_PrimeIs.f k n) (prB n) := by
  unfold impl_PrimeIs.f
  by_cases h5 : n ≤ 5000
  · simp only [if_pos h5]
    refine Ev.bind (a := prB n) ?_ (Ev.now _)
    unfold impl_prime.f
    by_cases h : 2 ≤ n
    · exact impl_prime_l0 h h5 (n - 2).toNat 2 (by omega) (by omega) (by omega) fun y h1 h2 => by omega
    · refine Ev.step (f := fun _ => some false) (fun k => ?_) ?_
      · rw [impl_prime.l0, w64 (by omega) (by omega), if_neg (by omega), decide_eq_false (by omega)]
      · rw [prB_false.2 fun hp => h hp.1.1]; exact Ev.now _
  · simp only [if_neg h5]
    rw [prB_false.2 fun hp => h5 hp.2]
    exact Ev.now _
theorem impl_rest_eq {n m : Int} (h0 : 0 < m) (h1 : m ≤ 1000000000) : impl_rest.f n m = some (n % m) := by
  unfold impl_rest.f; rw [if_neg (by omega), rest_form h0 h1]
theorem impl_split_l0 {p : Int} (hp : 2 ≤ p) (hp' : p ≤ 1000000000000000) : ∀ (f : Nat) (n : Int), n ≠ 0 → n.natAbs ≤ f → n.natAbs ≤ 1000000000000000 → ∀ c : Int, 0 ≤ c → c + f ≤ 2000000000000000 → Ev (fun k => impl_split.l0 k n p c) (c + (spl f n p).1, (spl f n p).2) := by
  intro f
  induction f with
  | zero => intro n hn hf; omega
  | succ f ih =>
    intro n hn hf hb c hc hcf
    rw [spl]
    by_cases h : n % p = 0
    · obtain ⟨h1, h2, h3⟩ := div_smaller hp hn h
      rw [if_pos h]
      have := ih (n / p) h1 (by omega) (by omega) (c + 1) (by omega) (by omega)
      have e : c + (((spl f (n / p) p).1 + 1 : Nat) : Int) = c + 1 + ((spl f (n / p) p).1 : Int) := by omega
      show Ev (fun k => impl_split.l0 k n p c) (c + (((spl f (n / p) p).1 + 1 : Nat) : Int), (spl f (n / p) p).2)
      rw [e]
      refine Ev.step (fun k => ?_) this
      rw [impl_split.l0, if_neg (by omega), if_pos (tm_zero.2 h), td_dvd h, w64 (by omega) (by omega), w64 (by omega) (by omega)]
    · rw [if_neg h]
      refine Ev.step (f := fun _ => some (c, n)) (fun k => ?_) ?_
      · rw [impl_split.l0, if_neg (by omega), if_neg (fun e => h (tm_zero.1 e))]
      · have e : c + ((0 : Nat) : Int) = c := by omega
        show Ev _ (c + ((0 : Nat) : Int), n)
        rw [e]; exact Ev.now _
theorem impl_split_ev {n p : Int} (hp : 2 ≤ p) (hp' : p ≤ 1000000000000000) (hn : n ≠ 0) (hb : n.natAbs ≤ 1000000000000000) : Ev (fun k => impl_split.f k n p) ((vl n p : Int), un n p) := by
  have := impl_split_l0 hp hp' n.natAbs n hn (Nat.le_refl _) hb 0 (by omega) (by omega)
  rw [Int.zero_add] at this
  exact this
theorem impl_PowerMod_l0 {n m E : Int} (hm : 1 ≤ m) (hm' : m ≤ 5000) (hE : E ≤ 5000) : ∀ (d : Nat) (o i : Int), 0 ≤ i → i + d = E → o = n ^ i.toNat % m → Ev (fun k => impl_PowerMod.l0 k n m o E i) (n ^ E.toNat % m, true) := by
  intro d
  induction d with
  | zero =>
    intro o i hi hd ho
    have : i = E := by omega
    subst this
    refine Ev.step (f := fun _ => some (o, true)) (fun k => ?_) ?_
    · rw [impl_PowerMod.l0, if_neg (by omega)]
    · rw [ho]; exact Ev.now _
  | succ d ih =>
    intro o i hi hd ho
    have r1 := emod_bd (n ^ i.toNat) (show 0 < m by omega)
    have r2 := emod_bd n (show 0 < m by omega)
    have bd := mul_bd (show 0 ≤ o by omega) (show o ≤ 5000 by omega) r2.1 (show n % m ≤ 5000 by omega)
    refine Ev.step (fun k => ?_) (ih (o * (n % m) % m) (i + 1) (by omega) (by omega) ?_)
    · rw [impl_PowerMod.l0, if_pos (by omega), impl_rest_eq (by omega) (by omega), Option.bind_some, if_neg (by omega), w64 (x := o * (n % m)) (by omega) (by omega), tm bd.1, w64 (by omega) (by omega)]
    · have ee : (i + 1).toNat = i.toNat + 1 := by omega
      rw [ee]; exact power_step n o m i.toNat ho
theorem impl_PowerMod_no (n e m : Int) : Ev (fun k => impl_PowerMod.j0 k n e m true) (0, false) := by
  refine Ev.step (f := fun _ => some (0, false)) (fun k => ?_) (Ev.now _)
  rw [impl_PowerMod.j0, if_pos rfl]
theorem impl_PowerMod_ev (n e m : Int) : Ev (fun k => impl_PowerMod.f k n e m) (powOf n e m) := by
  unfold impl_PowerMod.f powOf
  simp only [impl_isNumber_eq, Option.bind_some]
  by_cases h : numB n = true
  · simp only [if_pos h]
    by_cases he : e < 0
    · simp only [if_pos he]; rw [if_neg (by omega)]; exact impl_PowerMod_no ..
    · simp only [if_neg he]
      by_cases he' : e > 5000
      · simp only [if_pos he']; rw [if_neg (by omega)]; exact impl_PowerMod_no ..
      · simp only [if_neg he']
        by_cases hm : m < 1
        · simp only [if_pos hm]; rw [if_neg (by omega)]; exact impl_PowerMod_no ..
        · simp only [if_neg hm]
          by_cases hm' : m > 5000
          · rw [decide_eq_true hm', if_neg (by omega)]; exact impl_PowerMod_no ..
          · rw [decide_eq_false hm', if_pos ⟨h, by omega, by omega, by omega, by omega⟩]
            refine Ev.step (f := fun k => impl_PowerMod.l0 k n m (1 % m) e 0) (fun k => ?_) (impl_PowerMod_l0 (by omega) (by omega) (by omega) e.toNat _ 0 (by omega) (by omega) ?_)
            · rw [impl_PowerMod.j0, if_neg (by simp), if_neg (by omega)]
            · show 1 % m = n ^ 0 % m
              rw [Int.pow_zero]
  · simp only [if_neg h]; rw [if_neg (fun h' => h h'.1)]; exact impl_PowerMod_no ..
theorem impl_size_eq {n : Int} (h : -1000000000000 ≤ n) (h' : n ≤ 1000000000000) : impl_size.f n = some (n.natAbs : Int) := by
  unfold impl_size.f mx
  rw [w64 (by omega) (by omega)]
  congr 1
  split <;> omega
theorem impl_gcd_l1 {l : List Int} {L i r : Int} : ∀ (f : Nat) (x y : Int), 0 ≤ x → 0 ≤ y → y < f → Ev (fun k => impl_gcd.l0 k (Int.gcd x y : Int) l L (i + 1)) r → 0 ≤ i → i < 1000000 → Ev (fun k => impl_gcd.l1 k x y l L i) r := by
  intro f
  induction f with
  | zero => intro x y hx hy hf; omega
  | succ f ih =>
    intro x y hx hy hf hr hi hi'
    by_cases h : y = 0
    · subst h
      have e : (Int.gcd x 0 : Int) = x := by rw [Int.gcd_zero]; omega
      rw [e] at hr
      refine Ev.step (fun k => ?_) hr
      rw [impl_gcd.l1, if_pos rfl, w64 (by omega) (by omega)]
    · have r := emod_bd x (show 0 < y by omega)
      rw [gcd_step hx (by omega)] at hr
      refine Ev.step (fun k => ?_) (ih y (x % y) hy r.1 (by omega) hr hi hi')
      rw [impl_gcd.l1, if_neg h, tm hx]
theorem impl_gcd_two {a b : Int} (ha : -5000 ≤ a) (ha' : a ≤ 5000) (hb : -5000 ≤ b) (hb' : b ≤ 5000) : Ev (fun k => impl_gcd.f k [a, b]) (Int.gcd a b : Int) := by
  unfold impl_gcd.f
  refine Ev.step (f := fun k => impl_gcd.l1 k 0 a.natAbs [a, b] 2 0) (fun k => ?_) ?_
  · rw [impl_gcd.l0]
    show (if (0 : Int) < 2 then _ else _) = _
    rw [if_pos (by omega), if_pos (by omega), if_pos (by simp), show rd [a, b] 0 = a from rfl, impl_size_eq (by omega) (by omega), Option.bind_some]
    rfl
  · refine impl_gcd_l1 (a.natAbs + 1) 0 a.natAbs (by omega) (by omega) (by omega) ?_ (by omega) (by omega)
    have e : (Int.gcd 0 (a.natAbs : Int) : Int) = a.natAbs := by rw [Int.zero_gcd]; omega
    rw [e]
    refine Ev.step (f := fun k => impl_gcd.l1 k a.natAbs b.natAbs [a, b] 2 1) (fun k => ?_) ?_
    · rw [impl_gcd.l0, if_pos (by omega), if_pos (by omega), if_pos (by simp), show rd [a, b] (0 + 1) = b from rfl, impl_size_eq (by omega) (by omega), Option.bind_some]
      rfl
    · refine impl_gcd_l1 (b.natAbs + 1) a.natAbs b.natAbs (by omega) (by omega) (by omega) ?_ (by omega) (by omega)
      rw [Int.gcd_natCast_natCast]
      refine Ev.step (f := fun _ => some (Int.gcd a b : Int)) (fun k => ?_) (Ev.now _)
      rw [impl_gcd.l0, if_neg (by omega)]; rfl
theorem impl_GcdOf_ev (a b : Int) : Ev (fun k => impl_GcdOf.f k a b) (gcdOf a b) := by
  unfold impl_GcdOf.f gcdOf
  simp only [impl_isNumber_eq, Option.bind_some]
  by_cases ha : numB a = true
  · simp only [if_pos ha]
    by_cases hb : numB b = true
    · simp only [if_pos hb]; rw [if_pos ⟨ha, hb⟩]
      have ha' := numB_true.1 ha
      have hb' := numB_true.1 hb
      exact Ev.bind (impl_gcd_two ha'.1 ha'.2 hb'.1 hb'.2) (Ev.now _)
    · simp only [if_neg hb]; rw [if_neg (fun h => hb h.2)]; exact Ev.now _
  · simp only [if_neg ha]; rw [if_neg (fun h => ha h.1)]; exact Ev.now _
theorem impl_primesOf_l0 : ∀ (f : Nat) (n : Int) (acc : List Int) (p : Int), 1 ≤ n → n ≤ 1000000 → 2 ≤ p → p ≤ 1000002 → n < f + p → (acc.length : Int) ≤ p → Ev (fun k => impl_primesOf.l0 k n acc p) (pfl f n acc p) := by
  intro f
  have last : ∀ (n : Int) (acc : List Int) (p : Int), 1 ≤ n → n ≤ 1000000 → 2 ≤ p → p ≤ 1000002 → n < p * p → (acc.length : Int) ≤ p → Ev (fun k => impl_primesOf.l0 k n acc p) (if n > 1 then acc ++ [n] else acc) := by
    intro n acc p hn hn' hp hp' hlt hl
    have hb := mul_bd (show 0 ≤ p by omega) hp' (show 0 ≤ p by omega) hp'
    refine Ev.step (f := fun _ => some (if n > 1 then acc ++ [n] else acc)) (fun k => ?_) (Ev.now _)
    rw [impl_primesOf.l0, w64 (by omega) (by omega), if_neg (by omega)]
    by_cases h1 : n > 1
    · rw [if_pos h1, if_pos h1, if_pos (by omega)]
    · rw [if_neg h1, if_neg h1]
  induction f with
  | zero =>
    intro n acc p hn hn' hp hp' hf hl
    rw [pfl]
    exact last n acc p hn hn' hp hp' (sq_gt hp (by omega)) hl
  | succ f ih =>
    intro n acc p hn hn' hp hp' hf hl
    have hb := mul_bd (show 0 ≤ p by omega) hp' (show 0 ≤ p by omega) hp'
    rw [pfl]
    by_cases hle : p * p ≤ n
    · rw [if_pos hle]
      have hpn : p ≤ n := by have := sq_gt hp (Int.le_refl p); omega
      by_cases hm : n % p = 0
      · rw [if_pos hm]
        have hu := un_pos hp hn
        refine Ev.step (f := fun k => (impl_split.f k n p).bind fun bt => impl_primesOf.l0 k bt.2 (acc ++ [p]) (p + 1)) (fun k => ?_) (Ev.bind (impl_split_ev hp (by omega) (by omega) (by omega)) (ih (un n p) (acc ++ [p]) (p + 1) hu.1 (by omega) (by omega) (by omega) (by omega) (by simp; omega)))
        rw [impl_primesOf.l0, w64 (x := p * p) (by omega) (by omega), if_pos hle, if_neg (by omega), if_pos (tm_zero.2 hm), if_pos (by omega), w64 (x := p + 1) (by omega) (by omega)]
      · rw [if_neg hm]
        refine Ev.step (fun k => ?_) (ih n acc (p + 1) hn hn' (by omega) (by omega) (by omega) (by omega))
        rw [impl_primesOf.l0, w64 (x := p * p) (by omega) (by omega), if_pos hle, if_neg (by omega), if_neg (fun e => hm (tm_zero.1 e)), w64 (x := p + 1) (by omega) (by omega)]
    · rw [if_neg hle]
      exact last n acc p hn hn' hp hp' (by omega) hl
theorem impl_primesOf_ev {n : Int} (hn : n ≠ 0) (hb : n.natAbs ≤ 1000000) : Ev (fun k => impl_primesOf.f k n) (primesL n) := by
  unfold impl_primesOf.f
  simp only [impl_size_eq (n := n) (by omega) (by omega), Option.bind_some]
  exact impl_primesOf_l0 n.natAbs n.natAbs [] 2 (by omega) (by omega) (by omega) (by omega) (by omega) (by simp)
theorem rd_pre (p : List Int) (a : Int) (l : List Int) : rd (p ++ a :: l) (p.length : Int) = a := by
  unfold rd
  rw [Int.toNat_natCast, List.getD_eq_getElem?_getD, List.getElem?_append_right (Nat.le_refl _)]
  simp
theorem set_pre (p : List Int) (a : Int) (l : List Int) (c : Int) : (p ++ a :: l).set ((p.length : Int)).toNat c = p ++ c :: l := by
  rw [Int.toNat_natCast, List.set_append_right _ _ (Nat.le_refl _)]
  simp
theorem laws_sameInts_l0 {r : Bool} : ∀ (l1 l2 p1 p2 : List Int), p1.length = p2.length → l1.length = l2.length → (p1 ++ l1).length ≤ 1000000 → (decide (l1 = l2)) = r → Ev (fun k => laws_sameInts.l0 k (p1 ++ l1) (p2 ++ l2) p1.length) r := by
  intro l1
  induction l1 with
  | nil =>
    intro l2 p1 p2 hp hl hb hr
    have : l2 = [] := List.length_eq_zero_iff.1 hl.symm
    subst this
    refine Ev.step (f := fun _ => some true) (fun k => ?_) ?_
    · rw [laws_sameInts.l0, if_neg (by simp)]
    · rw [← hr]; simp; exact Ev.now _
  | cons a l1 ih =>
    intro l2 p1 p2 hp hl hb hr
    match l2 with
    | [] => simp at hl
    | b :: l2 =>
      simp only [List.length_append, List.length_cons] at hb hl
      by_cases e : a = b
      · have := ih l2 (p1 ++ [a]) (p2 ++ [b]) (by simp [hp]) (by omega) (by simp; omega) (by rw [← hr]; simp [e])
        simp only [List.append_assoc, List.singleton_append, List.length_append, List.length_singleton] at this
        refine Ev.step (fun k => ?_) this
        rw [laws_sameInts.l0, if_pos (by simp; omega), if_pos (by omega), if_pos (by rw [hp]; simp; omega), rd_pre, hp, rd_pre, if_pos e, w64 (by omega) (by omega)]
        rfl
      · refine Ev.step (f := fun _ => some false) (fun k => ?_) ?_
        · rw [laws_sameInts.l0, if_pos (by simp; omega), if_pos (by omega), if_pos (by rw [hp]; simp; omega), rd_pre, hp, rd_pre, if_neg e]
        · rw [← hr]; simp [e]; exact Ev.now _
theorem laws_sameInts_ev {l1 l2 : List Int} (hb : l1.length ≤ 1000000) : Ev (fun k => laws_sameInts.f k l1 l2) (decide (l1 = l2)) := by
  unfold laws_sameInts.f
  by_cases h : (l1.length : Int) = (l2.length : Int)
  · simp only [if_pos h]
    exact laws_sameInts_l0 l1 l2 [] [] rfl (by omega) (by simpa using hb) rfl
  · simp only [if_neg h]
    rw [decide_eq_false (fun e => h (by rw [e]))]; exact Ev.now _
theorem impl_PrimesOf_ev (n : Int) : Ev (fun k => impl_PrimesOf.f k n) (primesOfL n) := by
  unfold impl_PrimesOf.f primesOfL
  simp only [impl_isNumber_eq, Option.bind_some]
  by_cases h0 : n = 0
  · simp only [if_pos h0]; rw [if_neg (fun h => h.1 h0)]; exact Ev.now _
  · simp only [if_neg h0]
    by_cases h : numB n = true
    · simp only [if_pos h]; rw [if_pos ⟨h0, h⟩]
      have hn := numB_true.1 h
      exact Ev.bind (impl_primesOf_ev h0 (by omega)) (Ev.now _)
    · simp only [if_neg h]; rw [if_neg (fun h' => h h'.2)]; exact Ev.now _
theorem spec_l6Open_eq {l : List Int} (h : ∀ x ∈ l, (Lit.int .u8 x).wf = true) : ∃ b, GB b ∧ spec_l6Open.f l = some (b, 0) := by
  unfold spec_l6Open.f
  by_cases h1 : (l.length : Int) > 2000
  · rw [if_pos h1, if_pos (by omega)]
    exact ⟨l.take 2000, ⟨by simp; omega, fun x hx => u8_bd (h x (List.mem_of_mem_take hx))⟩, rfl⟩
  · rw [if_neg h1]
    exact ⟨l, ⟨by omega, fun x hx => u8_bd (h x hx)⟩, rfl⟩
theorem rd_bd {b : List Int} (hb : GB b) (i : Int) : 0 ≤ rd b i ∧ rd b i ≤ 255 := by
  unfold rd
  rw [List.getD_eq_getElem?_getD]
  cases h : b[i.toNat]? with
  | none => simp
  | some x => exact hb.2 x (List.mem_of_getElem? h)
theorem pick_ev {b : List Int} (hb : GB b) {p n : Int} (hp : 0 ≤ p) (hp' : p ≤ 1000) (hn : 1 ≤ n) (hn' : n ≤ 1000) : ∃ v, 0 ≤ v ∧ v < n ∧ Ev (fun k => spec_l6Rd_pick.f k b p n) (v, p + 1) := by
  have hl := hb.1
  have e1 : wrap64 (p + 1) = p + 1 := w64 (by omega) (by omega)
  have e2 : wrap64 (p + 1 - 1) = p := by rw [w64 (by omega) (by omega)]; omega
  unfold spec_l6Rd_pick.f
  simp only [if_neg (show ¬ n < 1 by omega), e1]
  by_cases h0 : b.length = 0
  · refine ⟨0, by omega, by omega, Ev.step (f := fun _ => some (0, p + 1)) (fun k => ?_) (Ev.now _)⟩
    rw [spec_l6Rd_pick.j0, if_pos (by simp [h0])]
  · have hL : ((b.length : Int) == 0) = false := by rw [beq_eq_false_iff_ne]; omega
    rw [hL]
    by_cases h1 : p < (b.length : Int)
    · have hr := rd_bd hb p
      have m := emod_bd (rd b p) (show 0 < n by omega)
      refine ⟨rd b p % n, m.1, m.2, Ev.step (f := fun _ => some (rd b p % n, p + 1)) (fun k => ?_) (Ev.now _)⟩
      rw [spec_l6Rd_pick.j0, if_neg (by simp), e2, if_pos h1, if_pos hp, if_neg (by omega), w64 (x := rd b p) (by omega) (by omega), tm hr.1]
    · have m1 := emod_bd p (show (0 : Int) < b.length by omega)
      have t1 : Int.tmod p (b.length : Int) = p % (b.length : Int) := tm hp
      have e7 : wrap64 (wrap64 (p * 7) + 3) = p * 7 + 3 := by rw [w64 (x := p * 7) (by omega) (by omega), w64 (by omega) (by omega)]
      have t2 : Int.tmod (p * 7 + 3) (b.length : Int) = (p * 7 + 3) % (b.length : Int) := tm (by omega)
      have m2 := emod_bd (p * 7 + 3) (show (0 : Int) < b.length by omega)
      have r1 := rd_bd hb (p % (b.length : Int))
      have r2 := rd_bd hb ((p * 7 + 3) % (b.length : Int))
      have d1 : Int.tdiv p (b.length : Int) = p / (b.length : Int) := Int.tdiv_eq_ediv_of_nonneg hp
      have d2 : 0 ≤ p / (b.length : Int) ∧ p / (b.length : Int) ≤ p := ⟨Int.ediv_nonneg hp (by omega), Int.ediv_le_self _ hp⟩
      have key : ∃ v, 0 ≤ v ∧ v < n ∧ ∀ k, spec_l6Rd_pick.j0 (k + 1) n false b (p + 1) = some (v, p + 1) := by
        generalize hq1 : rd b (p % (b.length : Int)) = q1 at r1
        generalize hq2 : rd b ((p * 7 + 3) % (b.length : Int)) = q2 at r2
        generalize hq3 : p / (b.length : Int) = q3 at d1 d2
        have hx0 : 0 ≤ Go.bits .xor .i64 (q1 * 131 + q2 * 1117 + p * 29 + q3 * 53) ((q1 * 131 + q2 * 1117 + p * 29 + q3 * 53) / 64) := xor_nonneg (by omega) (by omega) (by omega) (by omega)
        refine ⟨_, (emod_bd (Go.bits .xor .i64 (q1 * 131 + q2 * 1117 + p * 29 + q3 * 53) ((q1 * 131 + q2 * 1117 + p * 29 + q3 * 53) / 64)) (show 0 < n by omega)).1, (emod_bd _ (show 0 < n by omega)).2, fun k => ?_⟩
        rw [spec_l6Rd_pick.j0, if_neg (by simp), e2, if_neg h1, if_neg (by omega), t1, if_pos m1.1, if_pos m1.2, e7, t2, if_pos m2.1, if_pos m2.2, if_neg (by omega), hq1, hq2, d1,
          w64 (x := q1) (by omega) (by omega), w64 (x := q2) (by omega) (by omega), w64 (x := q1 * 131) (by omega) (by omega), w64 (x := q2 * 1117) (by omega) (by omega), w64 (x := q1 * 131 + q2 * 1117) (by omega) (by omega),
          w64 (x := p * 29) (by omega) (by omega), w64 (x := q1 * 131 + q2 * 1117 + p * 29) (by omega) (by omega), w64 (x := q3) (by omega) (by omega), w64 (x := q3 * 53) (by omega) (by omega),
          w64 (x := q1 * 131 + q2 * 1117 + p * 29 + q3 * 53) (by omega) (by omega),
          Int.tdiv_eq_ediv_of_nonneg (a := q1 * 131 + q2 * 1117 + p * 29 + q3 * 53) (by omega), w64 (x := (q1 * 131 + q2 * 1117 + p * 29 + q3 * 53) / 64) (by omega) (by omega), tm hx0]
      obtain ⟨v, h2, h3, h4⟩ := key
      exact ⟨v, h2, h3, Ev.step (f := fun _ => some (v, p + 1)) h4 (Ev.now _)⟩
theorem DrawPrimeIs_ev {l : List Int} (h : ∀ x ∈ l, (Lit.int .u8 x).wf = true) : ∃ n, (-1 ≤ n ∧ n ≤ 6000) ∧ Ev (fun k => spec_DrawPrimeIs.f k l) n := by
  obtain ⟨bs, hb, e⟩ := spec_l6Open_eq h
  unfold spec_DrawPrimeIs.f
  simp only [e, Option.bind_some]
  obtain ⟨v, a1, a2, a3⟩ := pick_ev hb (p := 0) (n := 12) (by omega) (by omega) (by omega) (by omega)
  by_cases h0 : v = 0
  · obtain ⟨u, b1, b2, b3⟩ := pick_ev hb (p := 0 + 1) (n := 6) (by omega) (by omega) (by omega) (by omega)
    have key : -1 ≤ rd [-1, 4999, 5003, 4997, 0, 1] u ∧ rd [-1, 4999, 5003, 4997, 0, 1] u ≤ 6000 := by
      have : u = 0 ∨ u = 1 ∨ u = 2 ∨ u = 3 ∨ u = 4 ∨ u = 5 := by omega
      rcases this with rfl | rfl | rfl | rfl | rfl | rfl <;> decide
    refine ⟨_, key, Ev.bind a3 ?_⟩
    simp only [if_pos h0, Option.bind_some]
    refine Ev.bind b3 ?_
    simp only [if_pos b1]
    rw [if_pos (by simp; omega)]
    exact Ev.now _
  · obtain ⟨x, b1, b2, b3⟩ := pick_ev hb (p := 0 + 1) (n := 200) (by omega) (by omega) (by omega) (by omega)
    obtain ⟨y, c1, c2, c3⟩ := pick_ev hb (p := 0 + 1 + 1) (n := 10) (by omega) (by omega) (by omega) (by omega)
    obtain ⟨z, d1, d2, d3⟩ := pick_ev hb (p := 0 + 1 + 1 + 1) (n := 200) (by omega) (by omega) (by omega) (by omega)
    have m := mul_bd c1 (show y ≤ 9 by omega) d1 (show z ≤ 199 by omega)
    refine ⟨x + y * z, ⟨by omega, by omega⟩, Ev.bind a3 ?_⟩
    simp only [if_neg h0]
    refine Ev.bind b3 (Ev.bind c3 (Ev.bind d3 ?_))
    rw [w64 (x := y * z) (by omega) (by omega), w64 (x := x + y * z) (by omega) (by omega)]
    exact Ev.now _
theorem FnPrime_end {n x : Int} (hn : prB n = true) : Ev (fun k => laws_FnPrime.j2 k n x false) true := by
  have hp := prB_true.1 hn
  have h2 := hp.1.1
  have hl : primesOfL n = [n] := by
    unfold primesOfL; rw [if_pos ⟨by omega, numB_true.2 ⟨by omega, by omega⟩⟩, primesL_prime hp.1]
  refine Ev.step (fun k => by rw [laws_FnPrime.j2, if_neg (by simp)]) ?_
  refine Ev.bind (impl_PrimesOf_ev n) (Ev.bind (laws_sameInts_ev (by rw [hl]; simp)) ?_)
  rw [hl]; simp only [decide_true]; exact Ev.now _
theorem FnPrime_l0 {n : Int} (hn : prB n = true) : ∀ (d : Nat) (x : Int), 1 ≤ x → x + d = n → Ev (fun k => laws_FnPrime.l0 k n x) true := by
  have hp := prB_true.1 hn
  have h2 := hp.1.1
  intro d
  induction d with
  | zero =>
    intro x hx hd
    refine Ev.step (fun k => by rw [laws_FnPrime.l0, if_neg (by omega)]) (FnPrime_end hn)
  | succ d ih =>
    intro x hx hd
    refine Ev.step (fun k => by rw [laws_FnPrime.l0, if_pos (by omega)]) ?_
    by_cases h50 : x ≤ 50
    · rw [decide_eq_true h50]
      have hnx : ¬ n ∣ x := Pr.not_dvd_small hx (by omega)
      have hnum : numB x = true := numB_true.2 ⟨by omega, by omega⟩
      have hpow : powOf x (n - 1) n = (1, true) := by
        unfold powOf
        rw [if_pos ⟨hnum, by omega, by omega, by omega, hp.2⟩]
        have := fermat hp.1 hnx
        have e : x ^ (n - 1).toNat % n = 1 % n := Int.emod_eq_emod_iff_emod_sub_eq_zero.2 (Int.emod_eq_zero_of_dvd this)
        rw [e, Int.emod_eq_of_lt (by omega) (by omega)]
      have hg : gcdOf x n = 1 := by
        unfold gcdOf
        rw [if_pos ⟨hnum, numB_true.2 ⟨by omega, by omega⟩⟩, Int.gcd_comm, hp.1.gcd_one hnx]; rfl
      refine Ev.step (fun k => by rw [laws_FnPrime.j2, if_pos rfl, w64 (x := n - 1) (by omega) (by omega), w64 (x := x + 1) (by omega) (by omega)]) ?_
      refine Ev.bind (impl_PowerMod_ev x (n - 1) n) ?_
      rw [hpow]
      simp only [if_true]
      refine Ev.bind (impl_GcdOf_ev x n) ?_
      rw [hg]
      simp only [if_true]
      exact ih (x + 1) (by omega) (by omega)
    · rw [decide_eq_false h50]; exact FnPrime_end hn
theorem FnPrime : laws_FnPrime.Pure := by
  intro l _ _ hl
  refine Ev.rounds ?_
  unfold laws_FnPrime.f
  by_cases hlen : (l.length : Int) > 1048576
  · simp only [if_pos hlen]; exact Ev.now _
  · simp only [if_neg hlen]
    obtain ⟨n, dn, hev⟩ := DrawPrimeIs_ev hl
    refine Ev.bind hev (Ev.bind (impl_PrimeIs_ev n) (Ev.bind (spec_PrimeIs_ev n) ?_))
    simp only [bne_self_eq_false, Bool.false_eq_true, if_false]
    by_cases hn : prB n = true
    · have h2 := (prB_true.1 hn).1.1
      rw [hn]
      refine Ev.step (fun k => by rw [laws_FnPrime.j0, if_neg (by simp)]) ?_
      exact FnPrime_l0 hn (n - 1).toNat 1 (by omega) (by omega)
    · rw [Bool.not_eq_true] at hn
      rw [hn]
      refine Ev.step (f := fun _ => some true) (fun k => ?_) (Ev.now _)
      rw [laws_FnPrime.j0, if_pos (by simp), beq_self_eq_true]

end Go.Proofs.Ytnbjnlbaoogbmaa.Pure
