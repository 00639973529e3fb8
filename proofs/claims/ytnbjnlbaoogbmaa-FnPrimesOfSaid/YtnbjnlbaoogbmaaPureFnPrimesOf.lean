/- At every draw the program's PrimesOf is the reference's; its primes ascend, and their powers' product is the number's size.
No condition beyond the given statement. The printed functions are tied to plain arithmetic one by one; the law follows at the end. -/
import Derived.Test.YtnbjnlbaoogbmaaWSized
import Derived.Test.YtnbjnlbaoogbmaaPFnPrimesOfx3
import Derived.Test.YtnbjnlbaoogbmaaM9
set_option linter.unusedVariables false
set_option linter.unusedSimpArgs false
namespace Go.Proofs.Ytnbjnlbaoogbmaa
open Go.ChangeShapes Go.WideShapes
/-- The words' lemma on the length of a slice, under the name by which the row of this law calls it. -/
theorem PrintWords.sized_ints {H : Type} {enc : TypeId × Value → H} {P : Program} {W : World} {base : Nat} {spare : Nat → Bool} {held : Bool} {t e : TypeId} {k : IntKind} {a : Option Addr} {len cap : Nat} {d : DataW H} {ps : List MemPlace} {ts : List TypeId} {ds : List (DataW H)} {j : Nat}
    (hsz : (DataW.weightsEach P ts ds).all (· ≤ reachBytes) = true) (ht : ts[j]? = some t) (hd : ds[j]? = some d) (hu : P.underlying t = some (.slice e)) (he : P.underlying e = some (.int k)) (hc : P.cellsOf e = 1) {B : Nat} (hB : P.bytesOf e = B)
    (h : DataW.Trod enc P W base spare held t (.slice a len cap) d ps) : len * B ≤ 140737488351232 :=
  Go.Proofs.YtnbjnlbaoogbmaaW.PrintWords.sized_ints hsz ht hd hu he hc hB h
end Go.Proofs.Ytnbjnlbaoogbmaa
namespace Go.Proofs.Ytnbjnlbaoogbmaa.Pure
open Go.RowKit Go.Proofs.Ytnbjnlbaoogbmaa.PFnPrimesOf Go.Proofs.YtnbjnlbaoogbmaaW.PrintWords Go.Proofs.YtnbjnlbaoogbmaaW.PrintLast Go.Proofs.YtnbjnlbaoogbmaaW.PrintMore Go.Proofs.LG

theorem spec_l6In_eq (a b c : Int) : spec_l6In.f a b c = some (decide (b ≤ a ∧ a ≤ c)) := by
  unfold spec_l6In.f
  by_cases h : a ≥ b
  · rw [if_pos h]; congr 1; rw [decide_eq_decide]; omega
  · rw [if_neg h]; congr 1; symm; rw [decide_eq_false_iff_not]; omega
theorem spec_l1Number_eq (a : Int) : spec_l1Number.f a = some (numB a) := by
  unfold spec_l1Number.f; rw [spec_l6In_eq]; rfl
theorem impl_isNumber_eq (a : Int) : impl_isNumber.f a = some (numB a) := by
  unfold impl_isNumber.f numB
  by_cases h : a ≥ -5000
  · rw [if_pos h]; congr 1; rw [decide_eq_decide]; omega
  · rw [if_neg h]; congr 1; symm; rw [decide_eq_false_iff_not]; omega
theorem impl_prime_l0 {n : Int} (h2 : 2 ≤ n) (hn : n ≤ 5000) : ∀ (d : Nat) (x : Int), 2 ≤ x → x ≤ n → n - x ≤ d → (∀ y, 2 ≤ y → y < x → ¬ y ∣ n) → Ev (fun k => impl_prime.l0 k n x) (prB n) := by
  intro d
  induction d with
  | zero =>
    intro x hx hxn hd h
    have := sq_gt hx (show n ≤ x by omega)
    have hb := mul_bd (show 0 ≤ x by omega) (show x ≤ 5000 by omega) (show 0 ≤ x by omega) (show x ≤ 5000 by omega)
    refine Ev.step (f := fun _ => some true) (fun k => ?_) ?_
    · rw [impl_prime.l0, w64 (by omega) (by omega), if_neg (by omega), decide_eq_true (by omega)]
    · rw [prB_true.2 ⟨pr_of_none h2 x (by omega) (by omega) h, hn⟩]; exact Ev.now _
  | succ d ih =>
    intro x hx hxn hd h
    have hb := mul_bd (show 0 ≤ x by omega) (show x ≤ 5000 by omega) (show 0 ≤ x by omega) (show x ≤ 5000 by omega)
    by_cases hle : x * x ≤ n
    · by_cases hdv : x ∣ n
      · have hlt : x < n := by
          have := sq_gt hx (Int.le_refl x); omega
        refine Ev.step (f := fun _ => some false) (fun k => ?_) ?_
        · rw [impl_prime.l0, w64 (by omega) (by omega), if_pos hle, if_neg (by omega), if_pos (Int.tmod_eq_zero_of_dvd hdv)]
        · rw [prB_false.2 fun hp => hp.1.2 x hx hlt hdv]; exact Ev.now _
      · have hlt : x < n := by
          have := sq_gt hx (Int.le_refl x); omega
        refine Ev.step (f := fun k => impl_prime.l0 k n (x + 1)) (fun k => ?_) (ih (x + 1) (by omega) (by omega) (by omega) ?_)
        · rw [impl_prime.l0, w64 (by omega) (by omega), if_pos hle, if_neg (by omega), if_neg (fun e => hdv (Int.dvd_of_tmod_eq_zero e)), w64 (by omega) (by omega)]
        · intro y h1 h2'
          by_cases e : y = x
          · subst e; exact hdv
          · exact h y h1 (by omega)
    · refine Ev.step (f := fun _ => some true) (fun k => ?_) ?_
      · rw [impl_prime.l0, w64 (by omega) (by omega), if_neg hle, decide_eq_true (by omega)]
      · rw [prB_true.2 ⟨pr_of_none h2 x (by omega) (by omega) h, hn⟩]; exact Ev.now _
theorem impl_PrimeIs_ev (n : Int) : Ev (fun k => impl_PrimeIs.f k n) (prB n) := by
  unfold impl_PrimeIs.f
  by_cases h5 : n ≤ 5000
  · simp only [if_pos h5]
    refine Ev.bind (a := prB n) ?_ (Ev.now _)
    unfold impl_prime.f
    by_cases h : 2 ≤ n
    · exact impl_prime_l0 h h5 (n - 2).toNat 2 (by omega) (by omega) (by omega) fun y h1 h2 => by omega
    · refine Ev.step (f := fun _ => some false) (fun k => ?_) ?_
      · rw [impl_prime.l0, w64 (by omega) (by omega), if_neg (by omega), decide_eq_false (by omega)]
      · rw [prB_false.2 fun hp => h hp.1.1]; exact Ev.now _
  · simp only [if_neg h5]
    rw [prB_false.2 fun hp => h5 hp.2]
    exact Ev.now _
theorem impl_split_l0 {p : Int} (hp : 2 ≤ p) (hp' : p ≤ 1000000000000000) : ∀ (f : Nat) (n : Int), n ≠ 0 → n.natAbs ≤ f → n.natAbs ≤ 1000000000000000 → ∀ c : Int, 0 ≤ c → c + f ≤ 2000000000000000 → Ev (fun k => impl_split.l0 k n p c) (c + (spl f n p).1, (spl f n p).2) := by
  intro f
  induction f with
  | zero => intro n hn hf; omega
  | succ f ih =>
    intro n hn hf hb c hc hcf
    rw [spl]
    by_cases h : n % p = 0
    · obtain ⟨h1, h2, h3⟩ := div_smaller hp hn h
      rw [if_pos h]
      have := ih (n / p) h1 (by omega) (by omega) (c + 1) (by omega) (by omega)
      have e : c + (((spl f (n / p) p).1 + 1 : Nat) : Int) = c + 1 + ((spl f (n / p) p).1 : Int) := by omega
      show Ev (fun k => impl_split.l0 k n p c) (c + (((spl f (n / p) p).1 + 1 : Nat) : Int), (spl f (n / p) p).2)
      rw [e]
      refine Ev.step (fun k => ?_) this
      rw [impl_split.l0, if_neg (by omega), if_pos (tm_zero.2 h), td_dvd h, w64 (by omega) (by omega), w64 (by omega) (by omega)]
    · rw [if_neg h]
      refine Ev.step (f := fun _ => some (c, n)) (fun k => ?_) ?_
      · rw [impl_split.l0, if_neg (by omega), if_neg (fun e => h (tm_zero.1 e))]
      · have e : c + ((0 : Nat) : Int) = c := by omega
        show Ev _ (c + ((0 : Nat) : Int), n)
        rw [e]; exact Ev.now _
theorem impl_split_ev {n p : Int} (hp : 2 ≤ p) (hp' : p ≤ 1000000000000000) (hn : n ≠ 0) (hb : n.natAbs ≤ 1000000000000000) : Ev (fun k => impl_split.f k n p) ((vl n p : Int), un n p) := by
  have := impl_split_l0 hp hp' n.natAbs n hn (Nat.le_refl _) hb 0 (by omega) (by omega)
  rw [Int.zero_add] at this
  exact this
theorem impl_ValuationOf_ev (n p : Int) : Ev (fun k => impl_ValuationOf.f k n p) (valuOf n p) := by
  unfold impl_ValuationOf.f valuOf
  simp only [impl_isNumber_eq, Option.bind_some]
  by_cases h0 : n = 0
  · simp only [if_pos h0]; rw [if_neg (fun h' => h'.1 h0)]; exact Ev.now _
  · simp only [if_neg h0]
    by_cases h : numB n = true
    · simp only [if_pos h]
      refine Ev.bind (impl_PrimeIs_ev p) ?_
      by_cases hp : prB p = true
      · simp only [if_pos hp]; rw [if_pos ⟨h0, h, hp⟩]
        have hp' := prB_true.1 hp
        have hn := numB_true.1 h
        exact Ev.bind (impl_split_ev hp'.1.1 (by omega) h0 (by omega)) (Ev.now _)
      · simp only [if_neg hp]; rw [if_neg (fun h' => hp h'.2.2)]; exact Ev.now _
    · simp only [if_neg h]; rw [if_neg (fun h' => h h'.2.1)]; exact Ev.now _
theorem spec_l1Size_eq {n : Int} (h : -1000000000000 ≤ n) (h' : n ≤ 1000000000000) : spec_l1Size.f n = some (n.natAbs : Int) := by
  unfold spec_l1Size.f mx
  rw [w64 (by omega) (by omega)]
  congr 1
  split <;> omega
theorem impl_size_eq {n : Int} (h : -1000000000000 ≤ n) (h' : n ≤ 1000000000000) : impl_size.f n = some (n.natAbs : Int) := by
  unfold impl_size.f mx
  rw [w64 (by omega) (by omega)]
  congr 1
  split <;> omega
theorem impl_primesOf_l0 : ∀ (f : Nat) (n : Int) (acc : List Int) (p : Int), 1 ≤ n → n ≤ 1000000 → 2 ≤ p → p ≤ 1000002 → n < f + p → (acc.length : Int) ≤ p → Ev (fun k => impl_primesOf.l0 k n acc p) (pfl f n acc p) := by
  intro f
  have last : ∀ (n : Int) (acc : List Int) (p : Int), 1 ≤ n → n ≤ 1000000 → 2 ≤ p → p ≤ 1000002 → n < p * p → (acc.length : Int) ≤ p → Ev (fun k => impl_primesOf.l0 k n acc p) (if n > 1 then acc ++ [n] else acc) := by
    intro n acc p hn hn' hp hp' hlt hl
    have hb := mul_bd (show 0 ≤ p by omega) hp' (show 0 ≤ p by omega) hp'
    refine Ev.step (f := fun _ => some (if n > 1 then acc ++ [n] else acc)) (fun k => ?_) (Ev.now _)
    rw [impl_primesOf.l0, w64 (by omega) (by omega), if_neg (by omega)]
    by_cases h1 : n > 1
    · rw [if_pos h1, if_pos h1, if_pos (by omega)]
    · rw [if_neg h1, if_neg h1]
  induction f with
  | zero =>
    intro n acc p hn hn' hp hp' hf hl
    rw [pfl]
    exact last n acc p hn hn' hp hp' (sq_gt hp (by omega)) hl
  | succ f ih =>
    intro n acc p hn hn' hp hp' hf hl
    have hb := mul_bd (show 0 ≤ p by omega) hp' (show 0 ≤ p by omega) hp'
    rw [pfl]
    by_cases hle : p * p ≤ n
    · rw [if_pos hle]
      have hpn : p ≤ n := by have := sq_gt hp (Int.le_refl p); omega
      by_cases hm : n % p = 0
      · rw [if_pos hm]
        have hu := un_pos hp hn
        refine Ev.step (f := fun k => (impl_split.f k n p).bind fun bt => impl_primesOf.l0 k bt.2 (acc ++ [p]) (p + 1)) (fun k => ?_) (Ev.bind (impl_split_ev hp (by omega) (by omega) (by omega)) (ih (un n p) (acc ++ [p]) (p + 1) hu.1 (by omega) (by omega) (by omega) (by omega) (by simp; omega)))
        rw [impl_primesOf.l0, w64 (x := p * p) (by omega) (by omega), if_pos hle, if_neg (by omega), if_pos (tm_zero.2 hm), if_pos (by omega), w64 (x := p + 1) (by omega) (by omega)]
      · rw [if_neg hm]
        refine Ev.step (fun k => ?_) (ih n acc (p + 1) hn hn' (by omega) (by omega) (by omega) (by omega))
        rw [impl_primesOf.l0, w64 (x := p * p) (by omega) (by omega), if_pos hle, if_neg (by omega), if_neg (fun e => hm (tm_zero.1 e)), w64 (x := p + 1) (by omega) (by omega)]
    · rw [if_neg hle]
      exact last n acc p hn hn' hp hp' (by omega) hl
theorem impl_primesOf_ev {n : Int} (hn : n ≠ 0) (hb : n.natAbs ≤ 1000000) : Ev (fun k => impl_primesOf.f k n) (primesL n) := by
  unfold impl_primesOf.f
  simp only [impl_size_eq (n := n) (by omega) (by omega), Option.bind_some]
  exact impl_primesOf_l0 n.natAbs n.natAbs [] 2 (by omega) (by omega) (by omega) (by omega) (by omega) (by simp)
theorem rd_pre (p : List Int) (a : Int) (l : List Int) : rd (p ++ a :: l) (p.length : Int) = a := by
  unfold rd
  rw [Int.toNat_natCast, List.getD_eq_getElem?_getD, List.getElem?_append_right (Nat.le_refl _)]
  simp
theorem set_pre (p : List Int) (a : Int) (l : List Int) (c : Int) : (p ++ a :: l).set ((p.length : Int)).toNat c = p ++ c :: l := by
  rw [Int.toNat_natCast, List.set_append_right _ _ (Nat.le_refl _)]
  simp
theorem laws_sameInts_l0 {r : Bool} : ∀ (l1 l2 p1 p2 : List Int), p1.length = p2.length → l1.length = l2.length → (p1 ++ l1).length ≤ 1000000 → (decide (l1 = l2)) = r → Ev (fun k => laws_sameInts.l0 k (p1 ++ l1) (p2 ++ l2) p1.length) r := by
  intro l1
  induction l1 with
  | nil =>
    intro l2 p1 p2 hp hl hb hr
    have : l2 = [] := List.length_eq_zero_iff.1 hl.symm
    subst this
    refine Ev.step (f := fun _ => some true) (fun k => ?_) ?_
    · rw [laws_sameInts.l0, if_neg (by simp)]
    · rw [← hr]; simp; exact Ev.now _
  | cons a l1 ih =>
    intro l2 p1 p2 hp hl hb hr
    match l2 with
    | [] => simp at hl
    | b :: l2 =>
      simp only [List.length_append, List.length_cons] at hb hl
      by_cases e : a = b
      · have := ih l2 (p1 ++ [a]) (p2 ++ [b]) (by simp [hp]) (by omega) (by simp; omega) (by rw [← hr]; simp [e])
        simp only [List.append_assoc, List.singleton_append, List.length_append, List.length_singleton] at this
        refine Ev.step (fun k => ?_) this
        rw [laws_sameInts.l0, if_pos (by simp; omega), if_pos (by omega), if_pos (by rw [hp]; simp; omega), rd_pre, hp, rd_pre, if_pos e, w64 (by omega) (by omega)]
        rfl
      · refine Ev.step (f := fun _ => some false) (fun k => ?_) ?_
        · rw [laws_sameInts.l0, if_pos (by simp; omega), if_pos (by omega), if_pos (by rw [hp]; simp; omega), rd_pre, hp, rd_pre, if_neg e]
        · rw [← hr]; simp [e]; exact Ev.now _
theorem laws_sameInts_ev {l1 l2 : List Int} (hb : l1.length ≤ 1000000) : Ev (fun k => laws_sameInts.f k l1 l2) (decide (l1 = l2)) := by
  unfold laws_sameInts.f
  by_cases h : (l1.length : Int) = (l2.length : Int)
  · simp only [if_pos h]
    exact laws_sameInts_l0 l1 l2 [] [] rfl (by omega) (by simpa using hb) rfl
  · simp only [if_neg h]
    rw [decide_eq_false (fun e => h (by rw [e]))]; exact Ev.now _
theorem spec_l1Primes_l1 {p : Int} (hp : 2 ≤ p) (hp' : p ≤ 1000002) (acc : List Int) {r : List Int} : ∀ (f : Nat) (n : Int), n ≠ 0 → n.natAbs ≤ f → n.natAbs ≤ 1000000 → Ev (fun k => spec_l1Primes.l0 k (spl f n p).2 acc (p + 1)) r → Ev (fun k => spec_l1Primes.l1 k n acc p) r := by
  intro f
  induction f with
  | zero => intro n hn hf; omega
  | succ f ih =>
    intro n hn hf hb hr
    rw [spl] at hr
    by_cases h : n % p = 0
    · obtain ⟨h1, h2, h3⟩ := div_smaller hp hn h
      rw [if_pos h] at hr
      refine Ev.step (fun k => ?_) (ih (n / p) h1 (by omega) (by omega) hr)
      rw [spec_l1Primes.l1, if_neg (by omega), if_pos (tm_zero.2 h), td_dvd h, w64 (by omega) (by omega)]
    · rw [if_neg h] at hr
      refine Ev.step (fun k => ?_) hr
      rw [spec_l1Primes.l1, if_neg (by omega), if_neg (fun e => h (tm_zero.1 e)), w64 (by omega) (by omega)]
theorem spec_l1Primes_l0 : ∀ (f : Nat) (n : Int) (acc : List Int) (p : Int), 1 ≤ n → n ≤ 1000000 → 2 ≤ p → p ≤ 1000002 → n < f + p → (acc.length : Int) ≤ p → Ev (fun k => spec_l1Primes.l0 k n acc p) (pfl f n acc p) := by
  intro f
  have last : ∀ (n : Int) (acc : List Int) (p : Int), 1 ≤ n → n ≤ 1000000 → 2 ≤ p → p ≤ 1000002 → n < p * p → (acc.length : Int) ≤ p → Ev (fun k => spec_l1Primes.l0 k n acc p) (if n > 1 then acc ++ [n] else acc) := by
    intro n acc p hn hn' hp hp' hlt hl
    have hb := mul_bd (show 0 ≤ p by omega) hp' (show 0 ≤ p by omega) hp'
    refine Ev.step (f := fun _ => some (if n > 1 then acc ++ [n] else acc)) (fun k => ?_) (Ev.now _)
    rw [spec_l1Primes.l0, w64 (by omega) (by omega), if_neg (by omega)]
    by_cases h1 : n > 1
    · rw [if_pos h1, if_pos h1, if_pos (by omega)]
    · rw [if_neg h1, if_neg h1]
  induction f with
  | zero =>
    intro n acc p hn hn' hp hp' hf hl
    rw [pfl]
    exact last n acc p hn hn' hp hp' (sq_gt hp (by omega)) hl
  | succ f ih =>
    intro n acc p hn hn' hp hp' hf hl
    have hb := mul_bd (show 0 ≤ p by omega) hp' (show 0 ≤ p by omega) hp'
    rw [pfl]
    by_cases hle : p * p ≤ n
    · rw [if_pos hle]
      have hpn : p ≤ n := by have := sq_gt hp (Int.le_refl p); omega
      by_cases hm : n % p = 0
      · rw [if_pos hm]
        have hu := un_pos hp hn
        refine Ev.step (f := fun k => spec_l1Primes.j1 k n (acc ++ [p]) p) (fun k => ?_) (Ev.step (f := fun k => spec_l1Primes.l1 k n (acc ++ [p]) p) (fun k => by rw [spec_l1Primes.j1]) <| spec_l1Primes_l1 hp hp' (acc ++ [p]) n.natAbs n (by omega) (Nat.le_refl _) (by omega) (ih (un n p) (acc ++ [p]) (p + 1) hu.1 (by omega) (by omega) (by omega) (by omega) (by simp; omega)))
        rw [spec_l1Primes.l0, w64 (x := p * p) (by omega) (by omega), if_pos hle, if_neg (by omega), if_pos (tm_zero.2 hm), if_pos (by omega)]
      · rw [if_neg hm]
        refine Ev.step (f := fun k => spec_l1Primes.j1 k n acc p) (fun k => ?_) (Ev.step (f := fun k => spec_l1Primes.l1 k n acc p) (fun k => by rw [spec_l1Primes.j1]) <| Ev.step (fun k => ?_) (ih n acc (p + 1) hn hn' (by omega) (by omega) (by omega) (by omega)))
        · rw [spec_l1Primes.l0, w64 (x := p * p) (by omega) (by omega), if_pos hle, if_neg (by omega), if_neg (fun e => hm (tm_zero.1 e))]
        · rw [spec_l1Primes.l1, if_neg (by omega), if_neg (fun e => hm (tm_zero.1 e)), w64 (x := p + 1) (by omega) (by omega)]
    · rw [if_neg hle]
      exact last n acc p hn hn' hp hp' (by omega) hl
theorem spec_l1Primes_ev {n : Int} (hn : n ≠ 0) (hb : n.natAbs ≤ 1000000) : Ev (fun k => spec_l1Primes.f k n) (primesL n) := by
  unfold spec_l1Primes.f
  simp only [spec_l1Size_eq (n := n) (by omega) (by omega), Option.bind_some]
  exact spec_l1Primes_l0 n.natAbs n.natAbs [] 2 (by omega) (by omega) (by omega) (by omega) (by omega) (by simp)
theorem spec_PrimesOf_ev (n : Int) : Ev (fun k => spec_PrimesOf.f k n) (primesOfL n) := by
  unfold spec_PrimesOf.f primesOfL
  simp only [spec_l1Number_eq, Option.bind_some]
  by_cases h : numB n = true
  · simp only [if_pos h]
    by_cases h0 : n = 0
    · simp only [if_pos h0]; rw [if_neg (fun h => h.1 h0)]; exact Ev.now _
    · simp only [if_neg h0]; rw [if_pos ⟨h0, h⟩]
      have hn := numB_true.1 h
      exact Ev.bind (spec_l1Primes_ev h0 (by omega)) (Ev.now _)
  · simp only [if_neg h]; rw [if_neg (fun h' => h h'.2)]; exact Ev.now _
theorem impl_PrimesOf_ev (n : Int) : Ev (fun k => impl_PrimesOf.f k n) (primesOfL n) := by
  unfold impl_PrimesOf.f primesOfL
  simp only [impl_isNumber_eq, Option.bind_some]
  by_cases h0 : n = 0
  · simp only [if_pos h0]; rw [if_neg (fun h => h.1 h0)]; exact Ev.now _
  · simp only [if_neg h0]
    by_cases h : numB n = true
    · simp only [if_pos h]; rw [if_pos ⟨h0, h⟩]
      have hn := numB_true.1 h
      exact Ev.bind (impl_primesOf_ev h0 (by omega)) (Ev.now _)
    · simp only [if_neg h]; rw [if_neg (fun h' => h h'.2)]; exact Ev.now _
theorem spec_l6Open_eq {l : List Int} (h : ∀ x ∈ l, (Lit.int .u8 x).wf = true) : ∃ b, GB b ∧ spec_l6Open.f l = some (b, 0) := by
  unfold spec_l6Open.f
  by_cases h1 : (l.length : Int) > 2000
  · rw [if_pos h1, if_pos (by omega)]
    exact ⟨l.take 2000, ⟨by simp; omega, fun x hx => u8_bd (h x (List.mem_of_mem_take hx))⟩, rfl⟩
  · rw [if_neg h1]
    exact ⟨l, ⟨by omega, fun x hx => u8_bd (h x hx)⟩, rfl⟩
theorem rd_bd {b : List Int} (hb : GB b) (i : Int) : 0 ≤ rd b i ∧ rd b i ≤ 255 := by
  unfold rd
  rw [List.getD_eq_getElem?_getD]
  cases h : b[i.toNat]? with
  | none => simp
  | some x => exact hb.2 x (List.mem_of_getElem? h)
theorem pick_ev {b : List Int} (hb : GB b) {p n : Int} (hp : 0 ≤ p) (hp' : p ≤ 1000) (hn : 1 ≤ n) (hn' : n ≤ 1000) : ∃ v, 0 ≤ v ∧ v < n ∧ Ev (fun k => spec_l6Rd_pick.f k b p n) (v, p + 1) := by
  have hl := hb.1
  have e1 : wrap64 (p + 1) = p + 1 := w64 (by omega) (by omega)
  have e2 : wrap64 (p + 1 - 1) = p := by rw [w64 (by omega) (by omega)]; omega
  unfold spec_l6Rd_pick.f
  simp only [if_neg (show ¬ n < 1 by omega), e1]
  by_cases h0 : b.length = 0
  · refine ⟨0, by omega, by omega, Ev.step (f := fun _ => some (0, p + 1)) (fun k => ?_) (Ev.now _)⟩
    rw [spec_l6Rd_pick.j0, if_pos (by simp [h0])]
  · have hL : ((b.length : Int) == 0) = false := by rw [beq_eq_false_iff_ne]; omega
    rw [hL]
    by_cases h1 : p < (b.length : Int)
    · have hr := rd_bd hb p
      have m := emod_bd (rd b p) (show 0 < n by omega)
      refine ⟨rd b p % n, m.1, m.2, Ev.step (f := fun _ => some (rd b p % n, p + 1)) (fun k => ?_) (Ev.now _)⟩
      rw [spec_l6Rd_pick.j0, if_neg (by simp), e2, if_pos h1, if_pos hp, if_neg (by omega), w64 (x := rd b p) (by omega) (by omega), tm hr.1]
    · have m1 := emod_bd p (show (0 : Int) < b.length by omega)
      have t1 : Int.tmod p (b.length : Int) = p % (b.length : Int) := tm hp
      have e7 : wrap64 (wrap64 (p * 7) + 3) = p * 7 + 3 := by rw [w64 (x := p * 7) (by omega) (by omega), w64 (by omega) (by omega)]
      have t2 : Int.tmod (p * 7 + 3) (b.length : Int) = (p * 7 + 3) % (b.length : Int) := tm (by omega)
      have m2 := emod_bd (p * 7 + 3) (show (0 : Int) < b.length by omega)
      have r1 := rd_bd hb (p % (b.length : Int))
      have r2 := rd_bd hb ((p * 7 + 3) % (b.length : Int))
      have d1 : Int.tdiv p (b.length : Int) = p / (b.length : Int) := Int.tdiv_eq_ediv_of_nonneg hp
      have d2 : 0 ≤ p / (b.length : Int) ∧ p / (b.length : Int) ≤ p := ⟨Int.ediv_nonneg hp (by omega), Int.ediv_le_self _ hp⟩
      have key : ∃ v, 0 ≤ v ∧ v < n ∧ ∀ k, spec_l6Rd_pick.j0 (k + 1) n false b (p + 1) = some (v, p + 1) := by
        generalize hq1 : rd b (p % (b.length : Int)) = q1 at r1
        generalize hq2 : rd b ((p * 7 + 3) % (b.length : Int)) = q2 at r2
        generalize hq3 : p / (b.length : Int) = q3 at d1 d2
        have hx0 : 0 ≤ Go.bits .xor .i64 (q1 * 131 + q2 * 1117 + p * 29 + q3 * 53) ((q1 * 131 + q2 * 1117 + p * 29 + q3 * 53) / 64) := xor_nonneg (by omega) (by omega) (by omega) (by omega)
        refine ⟨_, (emod_bd (Go.bits .xor .i64 (q1 * 131 + q2 * 1117 + p * 29 + q3 * 53) ((q1 * 131 + q2 * 1117 + p * 29 + q3 * 53) / 64)) (show 0 < n by omega)).1, (emod_bd _ (show 0 < n by omega)).2, fun k => ?_⟩
        rw [spec_l6Rd_pick.j0, if_neg (by simp), e2, if_neg h1, if_neg (by omega), t1, if_pos m1.1, if_pos m1.2, e7, t2, if_pos m2.1, if_pos m2.2, if_neg (by omega), hq1, hq2, d1,
          w64 (x := q1) (by omega) (by omega), w64 (x := q2) (by omega) (by omega), w64 (x := q1 * 131) (by omega) (by omega), w64 (x := q2 * 1117) (by omega) (by omega), w64 (x := q1 * 131 + q2 * 1117) (by omega) (by omega),
          w64 (x := p * 29) (by omega) (by omega), w64 (x := q1 * 131 + q2 * 1117 + p * 29) (by omega) (by omega), w64 (x := q3) (by omega) (by omega), w64 (x := q3 * 53) (by omega) (by omega),
          w64 (x := q1 * 131 + q2 * 1117 + p * 29 + q3 * 53) (by omega) (by omega),
          Int.tdiv_eq_ediv_of_nonneg (a := q1 * 131 + q2 * 1117 + p * 29 + q3 * 53) (by omega), w64 (x := (q1 * 131 + q2 * 1117 + p * 29 + q3 * 53) / 64) (by omega) (by omega), tm hx0]
      obtain ⟨v, h2, h3, h4⟩ := key
      exact ⟨v, h2, h3, Ev.step (f := fun _ => some (v, p + 1)) h4 (Ev.now _)⟩
theorem l91Number_ev {b : List Int} (hb : GB b) {p : Int} (hp : 0 ≤ p) (hp' : p ≤ 500) : ∃ n q, DN n ∧ p ≤ q ∧ q ≤ p + 4 ∧ Ev (fun k => spec_l91Number.f k b p) (n, q) := by
  unfold spec_l91Number.f
  obtain ⟨v, a1, a2, a3⟩ := pick_ev hb (p := p) (n := 30) hp (by omega) (by omega) (by omega)
  by_cases h : v = 0
  · obtain ⟨u, b1, b2, b3⟩ := pick_ev hb (p := p + 1) (n := 6) (by omega) (by omega) (by omega) (by omega)
    have key : DN (rd [0, 5000, 5001, (-5001), 4096, 3969] u) := by
      have : u = 0 ∨ u = 1 ∨ u = 2 ∨ u = 3 ∨ u = 4 ∨ u = 5 := by omega
      rcases this with rfl | rfl | rfl | rfl | rfl | rfl <;> simp [DN, rd]
    refine ⟨_, p + 2, key, by omega, by omega, Ev.bind a3 ?_⟩
    simp only [if_pos h, Option.bind_some]
    refine Ev.bind b3 ?_
    simp only [if_pos b1]
    rw [if_pos (by simp; omega), show p + 1 + 1 = p + 2 by omega]
    exact Ev.now _
  · obtain ⟨u, b1, b2, b3⟩ := pick_ev hb (p := p + 1) (n := 40) (by omega) (by omega) (by omega) (by omega)
    obtain ⟨x, c1, c2, c3⟩ := pick_ev hb (p := p + 1 + 1) (n := 3) (by omega) (by omega) (by omega) (by omega)
    obtain ⟨s, d1, d2, d3⟩ := pick_ev hb (p := p + 1 + 1 + 1) (n := 2) (by omega) (by omega) (by omega) (by omega)
    have hux : 0 ≤ u * (1 + x) ∧ u * (1 + x) ≤ 117 := by
      have : x = 0 ∨ x = 1 ∨ x = 2 := by omega
      rcases this with rfl | rfl | rfl <;> omega
    by_cases hs : s = 0
    · refine ⟨-(1 + u * (1 + x)), p + 4, ?_, by omega, by omega, Ev.bind a3 ?_⟩
      · unfold DN; omega
      simp only [if_neg h]
      refine Ev.bind b3 (Ev.bind c3 (Ev.bind d3 ?_))
      simp only [if_pos hs]
      rw [w64 (x := 1 + x) (by omega) (by omega), w64 (x := u * (1 + x)) (by omega) (by omega), w64 (x := 1 + u * (1 + x)) (by omega) (by omega), w64 (x := -(1 + u * (1 + x))) (by omega) (by omega), show p + 1 + 1 + 1 + 1 = p + 4 by omega]
      exact Ev.now _
    · refine ⟨1 + u * (1 + x), p + 4, ?_, by omega, by omega, Ev.bind a3 ?_⟩
      · unfold DN; omega
      simp only [if_neg h]
      refine Ev.bind b3 (Ev.bind c3 (Ev.bind d3 ?_))
      simp only [if_neg hs]
      rw [w64 (x := 1 + x) (by omega) (by omega), w64 (x := u * (1 + x)) (by omega) (by omega), w64 (x := 1 + u * (1 + x)) (by omega) (by omega), show p + 1 + 1 + 1 + 1 = p + 4 by omega]
      exact Ev.now _
theorem DrawPrimesOf_ev {l : List Int} (h : ∀ x ∈ l, (Lit.int .u8 x).wf = true) : ∃ n, DN n ∧ Ev (fun k => spec_DrawPrimesOf.f k l) n := by
  obtain ⟨bs, hb, e⟩ := spec_l6Open_eq h
  unfold spec_DrawPrimesOf.f
  simp only [e, Option.bind_some]
  obtain ⟨n, q, a1, a2, a3, a4⟩ := l91Number_ev hb (p := 0) (by omega) (by omega)
  exact ⟨n, a1, Ev.bind a4 (Ev.now _)⟩
theorem prodP_app {n : Int} (p : Int) : ∀ l : List Int, prodP n (l ++ [p]) = prodP n l * p ^ vl n p
  | [] => by simp [prodP]
  | q :: l => by rw [List.cons_append, prodP, prodP, prodP_app p l, Int.mul_assoc]
theorem prodP_le {n : Int} (hn : n ≠ 0) {pre l : List Int} (e : pre ++ l = primesL n) : 1 ≤ prodP n pre ∧ prodP n pre ≤ n.natAbs := by
  have hpr : ∀ p ∈ pre, Pr p := fun p h => ((mem_primesL hn).1 (e ▸ List.mem_append_left l h)).1
  have hs := primesL_sorted hn
  rw [← e, List.pairwise_append] at hs
  have hd := (prodP_dvd hn pre hpr hs.1).1
  have hpos := prodP_pos (n := n) pre hpr
  refine ⟨hpos, ?_⟩
  exact Int.le_of_dvd (by omega) (Int.dvd_natAbs.2 hd)
theorem FnPrimesOf_l1 {n p P i : Int} {r : Bool} {L : List Int} (hrd : rd L i = p) (hi : 0 ≤ i) (hi' : i < L.length) (hp : 2 ≤ p) (hP : 1 ≤ P) {v : Nat} (hb : P * p ^ v ≤ 5000) (hi2 : i ≤ 100000) (h : Ev (fun k => laws_FnPrimesOf.l0 k n L (P * p ^ v) (i + 1)) r) :
    ∀ (d j : Nat), j + d = v → Ev (fun k => laws_FnPrimesOf.l1 k n L (P * p ^ j) i v j) r := by
  intro d
  induction d with
  | zero =>
    intro j hj
    have : j = v := by omega
    subst this
    refine Ev.step (fun k => ?_) h
    rw [laws_FnPrimesOf.l1, if_neg (by omega), w64 (x := i + 1) (by omega) (by omega)]
  | succ d ih =>
    intro j hj
    have h1 := pow_mono (show 1 ≤ p by omega) (show j + 1 ≤ v by omega)
    have h2 := pow_pos' (show 1 ≤ p by omega) (j + 1)
    have h3 := Int.mul_le_mul_of_nonneg_left h1 (show 0 ≤ P by omega)
    have h4 := Int.mul_nonneg (show 0 ≤ P by omega) (show 0 ≤ p ^ (j + 1) by omega)
    have e : P * p ^ j * p = P * p ^ (j + 1) := by rw [Int.pow_succ, Int.mul_assoc]
    have hpow : v ≤ 5000 := by
      have a1 := pow_ge_two hp v
      have a2 := Int.mul_le_mul_of_nonneg_right hP (show 0 ≤ p ^ v by have := pow_pos' (show 1 ≤ p by omega) v; omega)
      have a3 : (v : Int) < 2 ^ v := by
        have := @Nat.lt_pow_self v 2 (by omega)
        exact_mod_cast this
      omega
    refine Ev.step (fun k => ?_) (ih (j + 1) (by omega))
    rw [laws_FnPrimesOf.l1, if_pos (by omega), if_pos hi, if_pos hi', hrd, e, w64 (x := P * p ^ (j + 1)) (by omega) (by omega), w64 (x := (j : Int) + 1) (by omega) (by omega)]
    rfl
theorem rd_mem (pre l : List Int) (h : pre ≠ []) : rd (pre ++ l) ((pre.length : Int) - 1) ∈ pre := by
  have hl : 0 < pre.length := List.length_pos_iff.2 h
  have e : ((pre.length : Int) - 1).toNat = pre.length - 1 := by omega
  unfold rd
  rw [e, List.getD_eq_getElem?_getD, List.getElem?_append_left (by omega), List.getElem?_eq_getElem (by omega)]
  exact List.getElem_mem ..
theorem FnPrimesOf_l0 {n : Int} (hn : n ≠ 0) (hb : numB n = true) : ∀ (l pre : List Int), pre ++ l = primesL n → Ev (fun k => laws_FnPrimesOf.l0 k n (primesL n) (prodP n pre) pre.length) true := by
  have hlen := primesL_length hn
  have hnn := numB_true.1 hb
  intro l
  induction l with
  | nil =>
    intro pre e
    have hl : (primesL n).length = pre.length := by rw [← e]; simp
    have hpre : pre = primesL n := by rw [← e]; simp
    have hsz : laws_sizeOf.f n = some (n.natAbs : Int) := by
      unfold laws_sizeOf.f mx
      rw [w64 (x := -n) (by omega) (by omega)]
      congr 1
      split <;> omega
    refine Ev.step (f := fun _ => some true) (fun k => ?_) (Ev.now _)
    rw [laws_FnPrimesOf.l0, if_neg (by omega), hsz, Option.bind_some, hpre, prodP_all hn, beq_self_eq_true]
  | cons p l ih =>
    intro pre e
    have hl : (primesL n).length = pre.length + (l.length + 1) := by rw [← e]; simp
    have hrd : rd (primesL n) (pre.length : Int) = p := by rw [← e]; exact rd_pre ..
    have hmem : p ∈ primesL n := by rw [← e]; simp
    have hp := ((mem_primesL hn).1 hmem).1
    have hple := primesL_le hn hmem
    have hpB : prB p = true := prB_true.2 ⟨hp, by omega⟩
    have hs := primesL_sorted hn
    rw [← e, List.pairwise_append] at hs
    have hle1 := prodP_le hn e
    have hle2 := prodP_le (pre := pre ++ [p]) (l := l) hn (by rw [← e]; simp)
    rw [prodP_app] at hle2
    have hih := ih (pre ++ [p]) (by rw [← e]; simp)
    rw [List.length_append, prodP_app] at hih
    have hv : valuOf n p = (vl n p : Int) := by unfold valuOf; rw [if_pos ⟨hn, hb, hpB⟩]
    have hrest : Ev (fun k => laws_FnPrimesOf.j2 k n (primesL n) (prodP n pre) pre.length false) true := by
      refine Ev.step (fun k => by rw [laws_FnPrimesOf.j2, if_neg (by simp), if_pos (by omega), if_pos (by omega), hrd]) ?_
      refine Ev.bind (impl_ValuationOf_ev n p) ?_
      rw [hv]
      have := FnPrimesOf_l1 (n := n) (p := p) (P := prodP n pre) (i := pre.length) (r := true) (L := primesL n) hrd (by omega) (by omega) hp.1 hle1.1 (v := vl n p) (by omega) (by omega) (by exact hih) (vl n p) 0 (by omega)
      rw [Int.pow_zero, Int.mul_one] at this
      exact this
    refine Ev.step (f := fun k => (impl_PrimeIs.f k p).bind fun t => if t = true then laws_FnPrimesOf.j2 k n (primesL n) (prodP n pre) pre.length false else laws_FnPrimesOf.j2 k n (primesL n) (prodP n pre) pre.length true) (fun k => ?_) (Ev.bind (impl_PrimeIs_ev p) ?_)
    · rw [laws_FnPrimesOf.l0, if_pos (by omega), if_pos (by omega), hrd]
      by_cases h0 : pre = []
      · subst h0
        simp only [List.length_nil, if_neg (show ¬ ((0 : Nat) : Int) > 0 by omega)]
      · have hl0 : 0 < pre.length := List.length_pos_iff.2 h0
        have hlast := rd_mem pre (p :: l) h0
        rw [e] at hlast
        have hlt := hs.2.2 _ hlast p (by simp)
        rw [w64 (x := (pre.length : Int) - 1) (by omega) (by omega), if_pos (show (pre.length : Int) > 0 by omega), if_pos (show 0 ≤ (pre.length : Int) - 1 by omega), if_pos (show (pre.length : Int) - 1 < ((primesL n).length : Int) by omega), decide_eq_false (by omega)]
    · rw [hpB]; simp only [if_true]; exact hrest
theorem FnPrimesOf : laws_FnPrimesOf.Pure := by
  intro l _ _ hl
  refine Ev.rounds ?_
  unfold laws_FnPrimesOf.f
  by_cases hlen : (l.length : Int) > 1048576
  · simp only [if_pos hlen]; exact Ev.now _
  · simp only [if_neg hlen]
    obtain ⟨n, dn, hev⟩ := DrawPrimesOf_ev hl
    have h5 := primesOfL_length n
    refine Ev.bind hev (Ev.bind (impl_PrimesOf_ev n) (Ev.bind (spec_PrimesOf_ev n) (Ev.bind (laws_sameInts_ev (by omega)) ?_)))
    simp only [decide_true, if_true]
    have no : primesOfL n = [] → Ev (fun k => laws_FnPrimesOf.j0 k n (primesOfL n) (primesOfL n) true) true := by
      intro he
      refine Ev.step (fun k => by rw [laws_FnPrimesOf.j0, if_pos rfl]) (Ev.bind (laws_sameInts_ev (by omega)) ?_)
      simp only [decide_true]; exact Ev.now _
    by_cases he : primesOfL n = []
    · have : (((primesOfL n).length : Int) == 0) = true := by rw [he]; rfl
      rw [this]; exact no he
    · have : (((primesOfL n).length : Int) == 0) = false := by
        rw [beq_eq_false_iff_ne]
        have := List.length_pos_iff.2 he
        omega
      rw [this]
      have hc : n ≠ 0 ∧ numB n = true := by
        refine Classical.byContradiction fun hc => he ?_
        unfold primesOfL; rw [if_neg hc]
      have hv : primesOfL n = primesL n := by unfold primesOfL; rw [if_pos hc]
      rw [hv]
      refine Ev.step (fun k => by rw [laws_FnPrimesOf.j0, if_neg (by simp)]) ?_
      exact FnPrimesOf_l0 hc.1 hc.2 (primesL n) [] rfl

end Go.Proofs.Ytnbjnlbaoogbmaa.Pure
