/- The program's PrimesOf and the reference's answer alike at every integer, and each call's list is its own.
No condition beyond the given statement. The printed functions are tied to plain arithmetic one by one; the law follows at the end. -/
import Derived.Test.YtmepbogcfkecnaaPFnExactPrimesOfx2
import Derived.Test.YtmepbogcfkecnaaM4
set_option linter.unusedVariables false
set_option linter.unusedSimpArgs false
namespace Go.Proofs.Ytmepbogcfkecnaa.Pure
open Go.RowKit Go.Proofs.Ytmepbogcfkecnaa.PFnExactPrimesOf Go.Proofs.YtmepbogcfkecnaaW.PrintWords Go.Proofs.YtmepbogcfkecnaaW.PrintLast Go.Proofs.YtmepbogcfkecnaaW.PrintMore Go.Proofs.LG

theorem spec_l6In_eq (a b c : Int) : spec_l6In.f a b c = some (decide (b ≤ a ∧ a ≤ c)) := by
  unfold spec_l6In.f
  by_cases h : a ≥ b
  · rw [if_pos h]; congr 1; rw [decide_eq_decide]; omega
  · rw [if_neg h]; congr 1; symm; rw [decide_eq_false_iff_not]; omega
theorem spec_l1Number_eq (a : Int) : spec_l1Number.f a = some (numB a) := by
  unfold spec_l1Number.f; rw [spec_l6In_eq]; rfl
theorem impl_isNumber_eq (a : Int) : impl_isNumber.f a = some (numB a) := by
  unfold impl_isNumber.f numB
  by_cases h : a ≥ -5000
  · rw [if_pos h]; congr 1; rw [decide_eq_decide]; omega
  · rw [if_neg h]; congr 1; symm; rw [decide_eq_false_iff_not]; omega
theorem impl_split_l0 {p : Int} (hp : 2 ≤ p) (hp' : p ≤ 1000000000000000) : ∀ (f : Nat) (n : Int), n ≠ 0 → n.natAbs ≤ f → n.natAbs ≤ 1000000000000000 → ∀ c : Int, 0 ≤ c → c + f ≤ 2000000000000000 → Ev (fun k => impl_split.l0 k n p c) (c + (spl f n p).1, (spl f n p).2) := by
  intro f
  induction f with
  | zero => intro n hn hf; omega
  | succ f ih =>
    intro n hn hf hb c hc hcf
    rw [spl]
    by_cases h : n % p = 0
    · obtain ⟨h1, h2, h3⟩ := div_smaller hp hn h
      rw [if_pos h]
      have := ih (n / p) h1 (by omega) (by omega) (c + 1) (by omega) (by omega)
      have e : c + (((spl f (n / p) p).1 + 1 : Nat) : Int) = c + 1 + ((spl f (n / p) p).1 : Int) := by omega
      show Ev (fun k => impl_split.l0 k n p c) (c + (((spl f (n / p) p).1 + 1 : Nat) : Int), (spl f (n / p) p).2)
      rw [e]
      refine Ev.step (fun k => ?_) this
      rw [impl_split.l0, if_neg (by omega), if_pos (tm_zero.2 h), td_dvd h, w64 (by omega) (by omega), w64 (by omega) (by omega)]
    · rw [if_neg h]
      refine Ev.step (f := fun _ => some (c, n)) (fun k => ?_) ?_
      · rw [impl_split.l0, if_neg (by omega), if_neg (fun e => h (tm_zero.1 e))]
      · have e : c + ((0 : Nat) : Int) = c := by omega
        show Ev _ (c + ((0 : Nat) : Int), n)
        rw [e]; exact Ev.now _
theorem impl_split_ev {n p : Int} (hp : 2 ≤ p) (hp' : p ≤ 1000000000000000) (hn : n ≠ 0) (hb : n.natAbs ≤ 1000000000000000) : Ev (fun k => impl_split.f k n p) ((vl n p : Int), un n p) := by
  have := impl_split_l0 hp hp' n.natAbs n hn (Nat.le_refl _) hb 0 (by omega) (by omega)
  rw [Int.zero_add] at this
  exact this
theorem spec_l1Size_eq {n : Int} (h : -1000000000000 ≤ n) (h' : n ≤ 1000000000000) : spec_l1Size.f n = some (n.natAbs : Int) := by
  unfold spec_l1Size.f mx
  rw [w64 (by omega) (by omega)]
  congr 1
  split <;> omega
theorem impl_size_eq {n : Int} (h : -1000000000000 ≤ n) (h' : n ≤ 1000000000000) : impl_size.f n = some (n.natAbs : Int) := by
  unfold impl_size.f mx
  rw [w64 (by omega) (by omega)]
  congr 1
  split <;> omega
theorem impl_primesOf_l0 : ∀ (f : Nat) (n : Int) (acc : List Int) (p : Int), 1 ≤ n → n ≤ 1000000 → 2 ≤ p → p ≤ 1000002 → n < f + p → (acc.length : Int) ≤ p → Ev (fun k => impl_primesOf.l0 k n acc p) (pfl f n acc p) := by
  intro f
  have last : ∀ (n : Int) (acc : List Int) (p : Int), 1 ≤ n → n ≤ 1000000 → 2 ≤ p → p ≤ 1000002 → n < p * p → (acc.length : Int) ≤ p → Ev (fun k => impl_primesOf.l0 k n acc p) (if n > 1 then acc ++ [n] else acc) := by
    intro n acc p hn hn' hp hp' hlt hl
    have hb := mul_bd (show 0 ≤ p by omega) hp' (show 0 ≤ p by omega) hp'
    refine Ev.step (f := fun _ => some (if n > 1 then acc ++ [n] else acc)) (fun k => ?_) (Ev.now _)
    rw [impl_primesOf.l0, w64 (by omega) (by omega), if_neg (by omega)]
    by_cases h1 : n > 1
    · rw [if_pos h1, if_pos h1, if_pos (by omega)]
    · rw [if_neg h1, if_neg h1]
  induction f with
  | zero =>
    intro n acc p hn hn' hp hp' hf hl
    rw [pfl]
    exact last n acc p hn hn' hp hp' (sq_gt hp (by omega)) hl
  | succ f ih =>
    intro n acc p hn hn' hp hp' hf hl
    have hb := mul_bd (show 0 ≤ p by omega) hp' (show 0 ≤ p by omega) hp'
    rw [pfl]
    by_cases hle : p * p ≤ n
    · rw [if_pos hle]
      have hpn : p ≤ n := by have := sq_gt hp (Int.le_refl p); omega
      by_cases hm : n % p = 0
      · rw [if_pos hm]
        have hu := un_pos hp hn
        refine Ev.step (f := fun k => (impl_split.f k n p).bind fun bt => impl_primesOf.l0 k bt.2 (acc ++ [p]) (p + 1)) (fun k => ?_) (Ev.bind (impl_split_ev hp (by omega) (by omega) (by omega)) (ih (un n p) (acc ++ [p]) (p + 1) hu.1 (by omega) (by omega) (by omega) (by omega) (by simp; omega)))
        rw [impl_primesOf.l0, w64 (x := p * p) (by omega) (by omega), if_pos hle, if_neg (by omega), if_pos (tm_zero.2 hm), if_pos (by omega), w64 (x := p + 1) (by omega) (by omega)]
      · rw [if_neg hm]
        refine Ev.step (fun k => ?_) (ih n acc (p + 1) hn hn' (by omega) (by omega) (by omega) (by omega))
        rw [impl_primesOf.l0, w64 (x := p * p) (by omega) (by omega), if_pos hle, if_neg (by omega), if_neg (fun e => hm (tm_zero.1 e)), w64 (x := p + 1) (by omega) (by omega)]
    · rw [if_neg hle]
      exact last n acc p hn hn' hp hp' (by omega) hl
theorem impl_primesOf_ev {n : Int} (hn : n ≠ 0) (hb : n.natAbs ≤ 1000000) : Ev (fun k => impl_primesOf.f k n) (primesL n) := by
  unfold impl_primesOf.f
  simp only [impl_size_eq (n := n) (by omega) (by omega), Option.bind_some]
  exact impl_primesOf_l0 n.natAbs n.natAbs [] 2 (by omega) (by omega) (by omega) (by omega) (by omega) (by simp)
theorem rd_pre (p : List Int) (a : Int) (l : List Int) : rd (p ++ a :: l) (p.length : Int) = a := by
  unfold rd
  rw [Int.toNat_natCast, List.getD_eq_getElem?_getD, List.getElem?_append_right (Nat.le_refl _)]
  simp
theorem set_pre (p : List Int) (a : Int) (l : List Int) (c : Int) : (p ++ a :: l).set ((p.length : Int)).toNat c = p ++ c :: l := by
  rw [Int.toNat_natCast, List.set_append_right _ _ (Nat.le_refl _)]
  simp
theorem laws_eqIntS_l0 {r : Bool} : ∀ (l1 l2 p1 p2 : List Int), p1.length = p2.length → l1.length = l2.length → (p1 ++ l1).length ≤ 1000000 → (decide (l1 = l2)) = r → Ev (fun k => laws_eqIntS.l0 k (p1 ++ l1) (p2 ++ l2) p1.length) r := by
  intro l1
  induction l1 with
  | nil =>
    intro l2 p1 p2 hp hl hb hr
    have : l2 = [] := List.length_eq_zero_iff.1 hl.symm
    subst this
    refine Ev.step (f := fun _ => some true) (fun k => ?_) ?_
    · rw [laws_eqIntS.l0, if_neg (by simp)]
    · rw [← hr]; simp; exact Ev.now _
  | cons a l1 ih =>
    intro l2 p1 p2 hp hl hb hr
    match l2 with
    | [] => simp at hl
    | b :: l2 =>
      simp only [List.length_append, List.length_cons] at hb hl
      by_cases e : a = b
      · have := ih l2 (p1 ++ [a]) (p2 ++ [b]) (by simp [hp]) (by omega) (by simp; omega) (by rw [← hr]; simp [e])
        simp only [List.append_assoc, List.singleton_append, List.length_append, List.length_singleton] at this
        refine Ev.step (fun k => ?_) this
        rw [laws_eqIntS.l0, if_pos (by simp; omega), if_pos (by omega), if_pos (by rw [hp]; simp; omega), rd_pre, hp, rd_pre, if_pos e, w64 (by omega) (by omega)]
        rfl
      · refine Ev.step (f := fun _ => some false) (fun k => ?_) ?_
        · rw [laws_eqIntS.l0, if_pos (by simp; omega), if_pos (by omega), if_pos (by rw [hp]; simp; omega), rd_pre, hp, rd_pre, if_neg e]
        · rw [← hr]; simp [e]; exact Ev.now _
theorem laws_eqIntS_ev {l1 l2 : List Int} (hb : l1.length ≤ 1000000) : Ev (fun k => laws_eqIntS.f k l1 l2) (decide (l1 = l2)) := by
  unfold laws_eqIntS.f
  by_cases h : (l1.length : Int) = (l2.length : Int)
  · simp only [if_pos h]
    exact laws_eqIntS_l0 l1 l2 [] [] rfl (by omega) (by simpa using hb) rfl
  · simp only [if_neg h]
    rw [decide_eq_false (fun e => h (by rw [e]))]; exact Ev.now _
theorem laws_markIntS_l0 : ∀ (l p : List Int) (c : Int), (p ++ l).length ≤ 1000000 → 0 ≤ c → c + l.length ≤ 1000000000 → Ev (fun k => laws_markIntS.l0 k (p ++ l) c p.length) (c + l.length, p ++ marks l.length c) := by
  intro l
  induction l with
  | nil =>
    intro p c hb hc hc'
    refine Ev.step (f := fun _ => some (c, p ++ [])) (fun k => ?_) ?_
    · rw [laws_markIntS.l0, if_neg (by simp)]
    · show Ev _ (c + ((0 : Nat) : Int), p ++ [])
      rw [show c + ((0 : Nat) : Int) = c by omega]; exact Ev.now _
  | cons a l ih =>
    intro p c hb hc hc'
    simp only [List.length_append, List.length_cons] at hb hc'
    have := ih (p ++ [c]) (c + 1) (by simp; omega) (by omega) (by omega)
    simp only [List.append_assoc, List.singleton_append, List.length_append, List.length_singleton] at this
    rw [List.length_cons, marks, show c + ((l.length + 1 : Nat) : Int) = c + 1 + (l.length : Int) by omega]
    refine Ev.step (fun k => ?_) this
    rw [laws_markIntS.l0, if_pos (by simp; omega), if_pos (by omega), set_pre, w64 (by omega) (by omega), w64 (by omega) (by omega)]
    rfl
theorem laws_markIntS_ev {l : List Int} (hb : l.length ≤ 1000000) : Ev (fun k => laws_markIntS.f k l 1) (1 + l.length, marks l.length 1) :=
  laws_markIntS_l0 l [] 1 (by simpa using hb) (by omega) (by omega)
theorem laws_heldIntS_l0 : ∀ (n : Nat) (p : List Int) (c : Int), p.length + n ≤ 1000000 → 0 ≤ c → c + n ≤ 1000000000 → Ev (fun k => laws_heldIntS.l0 k (p ++ marks n c) c p.length) (c + n) := by
  intro n
  induction n with
  | zero =>
    intro p c hb hc hc'
    refine Ev.step (f := fun _ => some c) (fun k => ?_) ?_
    · rw [laws_heldIntS.l0, if_neg (by simp [marks])]
    · rw [show c + ((0 : Nat) : Int) = c by omega]; exact Ev.now _
  | succ n ih =>
    intro p c hb hc hc'
    have := ih (p ++ [c]) (c + 1) (by simp; omega) (by omega) (by omega)
    simp only [List.append_assoc, List.singleton_append, List.length_append, List.length_singleton] at this
    rw [marks, show c + ((n + 1 : Nat) : Int) = c + 1 + (n : Int) by omega]
    refine Ev.step (fun k => ?_) this
    rw [laws_heldIntS.l0, if_pos (by simp; omega), if_pos (by omega), rd_pre, if_pos rfl, w64 (by omega) (by omega), w64 (by omega) (by omega)]
    rfl
theorem laws_heldIntS_ev {n : Nat} (hb : n ≤ 1000000) : Ev (fun k => laws_heldIntS.f k (marks n 1) 1) (1 + n) :=
  laws_heldIntS_l0 n [] 1 (by simpa using hb) (by omega) (by omega)
theorem spec_l1Primes_l1 {p : Int} (hp : 2 ≤ p) (hp' : p ≤ 1000002) (acc : List Int) {r : List Int} : ∀ (f : Nat) (n : Int), n ≠ 0 → n.natAbs ≤ f → n.natAbs ≤ 1000000 → Ev (fun k => spec_l1Primes.l0 k (spl f n p).2 acc (p + 1)) r → Ev (fun k => spec_l1Primes.l1 k n acc p) r := by
  intro f
  induction f with
  | zero => intro n hn hf; omega
  | succ f ih =>
    intro n hn hf hb hr
    rw [spl] at hr
    by_cases h : n % p = 0
    · obtain ⟨h1, h2, h3⟩ := div_smaller hp hn h
      rw [if_pos h] at hr
      refine Ev.step (fun k => ?_) (ih (n / p) h1 (by omega) (by omega) hr)
      rw [spec_l1Primes.l1, if_neg (by omega), if_pos (tm_zero.2 h), td_dvd h, w64 (by omega) (by omega)]
    · rw [if_neg h] at hr
      refine Ev.step (fun k => ?_) hr
      rw [spec_l1Primes.l1, if_neg (by omega), if_neg (fun e => h (tm_zero.1 e)), w64 (by omega) (by omega)]
theorem spec_l1Primes_l0 : ∀ (f : Nat) (n : Int) (acc : List Int) (p : Int), 1 ≤ n → n ≤ 1000000 → 2 ≤ p → p ≤ 1000002 → n < f + p → (acc.length : Int) ≤ p → Ev (fun k => spec_l1Primes.l0 k n acc p) (pfl f n acc p) := by
  intro f
  have last : ∀ (n : Int) (acc : List Int) (p : Int), 1 ≤ n → n ≤ 1000000 → 2 ≤ p → p ≤ 1000002 → n < p * p → (acc.length : Int) ≤ p → Ev (fun k => spec_l1Primes.l0 k n acc p) (if n > 1 then acc ++ [n] else acc) := by
    intro n acc p hn hn' hp hp' hlt hl
    have hb := mul_bd (show 0 ≤ p by omega) hp' (show 0 ≤ p by omega) hp'
    refine Ev.step (f := fun _ => some (if n > 1 then acc ++ [n] else acc)) (fun k => ?_) (Ev.now _)
    rw [spec_l1Primes.l0, w64 (by omega) (by omega), if_neg (by omega)]
    by_cases h1 : n > 1
    · rw [if_pos h1, if_pos h1, if_pos (by omega)]
    · rw [if_neg h1, if_neg h1]
  induction f with
  | zero =>
    intro n acc p hn hn' hp hp' hf hl
    rw [pfl]
    exact last n acc p hn hn' hp hp' (sq_gt hp (by omega)) hl
  | succ f ih =>
    intro n acc p hn hn' hp hp' hf hl
    have hb := mul_bd (show 0 ≤ p by omega) hp' (show 0 ≤ p by omega) hp'
    rw [pfl]
    by_cases hle : p * p ≤ n
    · rw [if_pos hle]
      have hpn : p ≤ n := by have := sq_gt hp (Int.le_refl p); omega
      by_cases hm : n % p = 0
      · rw [if_pos hm]
        have hu := un_pos hp hn
        refine Ev.step (f := fun k => spec_l1Primes.j1 k n (acc ++ [p]) p) (fun k => ?_) (Ev.step (f := fun k => spec_l1Primes.l1 k n (acc ++ [p]) p) (fun k => by rw [spec_l1Primes.j1]) <| spec_l1Primes_l1 hp hp' (acc ++ [p]) n.natAbs n (by omega) (Nat.le_refl _) (by omega) (ih (un n p) (acc ++ [p]) (p + 1) hu.1 (by omega) (by omega) (by omega) (by omega) (by simp; omega)))
        rw [spec_l1Primes.l0, w64 (x := p * p) (by omega) (by omega), if_pos hle, if_neg (by omega), if_pos (tm_zero.2 hm), if_pos (by omega)]
      · rw [if_neg hm]
        refine Ev.step (f := fun k => spec_l1Primes.j1 k n acc p) (fun k => ?_) (Ev.step (f := fun k => spec_l1Primes.l1 k n acc p) (fun k => by rw [spec_l1Primes.j1]) <| Ev.step (fun k => ?_) (ih n acc (p + 1) hn hn' (by omega) (by omega) (by omega) (by omega)))
        · rw [spec_l1Primes.l0, w64 (x := p * p) (by omega) (by omega), if_pos hle, if_neg (by omega), if_neg (fun e => hm (tm_zero.1 e))]
        · rw [spec_l1Primes.l1, if_neg (by omega), if_neg (fun e => hm (tm_zero.1 e)), w64 (x := p + 1) (by omega) (by omega)]
    · rw [if_neg hle]
      exact last n acc p hn hn' hp hp' (by omega) hl
theorem spec_l1Primes_ev {n : Int} (hn : n ≠ 0) (hb : n.natAbs ≤ 1000000) : Ev (fun k => spec_l1Primes.f k n) (primesL n) := by
  unfold spec_l1Primes.f
  simp only [spec_l1Size_eq (n := n) (by omega) (by omega), Option.bind_some]
  exact spec_l1Primes_l0 n.natAbs n.natAbs [] 2 (by omega) (by omega) (by omega) (by omega) (by omega) (by simp)
theorem spec_PrimesOf_ev (n : Int) : Ev (fun k => spec_PrimesOf.f k n) (primesOfL n) := by
  unfold spec_PrimesOf.f primesOfL
  simp only [spec_l1Number_eq, Option.bind_some]
  by_cases h : numB n = true
  · simp only [if_pos h]
    by_cases h0 : n = 0
    · simp only [if_pos h0]; rw [if_neg (fun h => h.1 h0)]; exact Ev.now _
    · simp only [if_neg h0]; rw [if_pos ⟨h0, h⟩]
      have hn := numB_true.1 h
      exact Ev.bind (spec_l1Primes_ev h0 (by omega)) (Ev.now _)
  · simp only [if_neg h]; rw [if_neg (fun h' => h h'.2)]; exact Ev.now _
theorem impl_PrimesOf_ev (n : Int) : Ev (fun k => impl_PrimesOf.f k n) (primesOfL n) := by
  unfold impl_PrimesOf.f primesOfL
  simp only [impl_isNumber_eq, Option.bind_some]
  by_cases h0 : n = 0
  · simp only [if_pos h0]; rw [if_neg (fun h => h.1 h0)]; exact Ev.now _
  · simp only [if_neg h0]
    by_cases h : numB n = true
    · simp only [if_pos h]; rw [if_pos ⟨h0, h⟩]
      have hn := numB_true.1 h
      exact Ev.bind (impl_primesOf_ev h0 (by omega)) (Ev.now _)
    · simp only [if_neg h]; rw [if_neg (fun h' => h h'.2)]; exact Ev.now _
theorem FnExactPrimesOf : laws_FnExactPrimesOf.Pure := by
  intro n _
  refine Ev.rounds ?_
  unfold laws_FnExactPrimesOf.f
  have hl := primesOfL_length n
  refine Ev.bind (spec_PrimesOf_ev n) (Ev.bind (impl_PrimesOf_ev n) (Ev.bind (laws_eqIntS_ev (by omega)) ?_))
  simp only [decide_true, if_true]
  refine Ev.bind (laws_markIntS_ev (by omega)) (Ev.bind (laws_heldIntS_ev (by omega)) ?_)
  simp only [if_neg (show ¬ (1 + ((primesOfL n).length : Int) < 0) by omega), if_true]
  refine Ev.bind (impl_PrimesOf_ev n) (Ev.bind (laws_eqIntS_ev (by omega)) ?_)
  simp only [decide_true, if_true]
  refine Ev.bind (laws_heldIntS_ev (by omega)) ?_
  simp only [if_neg (show ¬ (1 + ((primesOfL n).length : Int) < 0) by omega), if_true]
  exact Ev.now _

end Go.Proofs.Ytmepbogcfkecnaa.Pure
