/- The program's CoreOf and the reference's answer alike at every integer.
No condition beyond the given statement. The printed functions are tied to plain arithmetic one by one; the law follows at the end. -/
import Derived.Test.YtndclhdlkhdlmaaPFnExactCoreOfx1
import Derived.Test.YtndclhdlkhdlmaaM4
set_option linter.unusedVariables false
set_option linter.unusedSimpArgs false
namespace Go.Proofs.Ytndclhdlkhdlmaa.Pure
open Go.RowKit Go.Proofs.Ytndclhdlkhdlmaa.PFnExactCoreOf Go.Proofs.YtndclhdlkhdlmaaW.PrintWords Go.Proofs.YtndclhdlkhdlmaaW.PrintLast Go.Proofs.YtndclhdlkhdlmaaW.PrintMore Go.Proofs.LG

theorem spec_l6In_eq (a b c : Int) : spec_l6In.f a b c = some (decide (b ≤ a ∧ a ≤ c)) := by
  unfold spec_l6In.f
  by_cases h : a ≥ b
  · rw [if_pos h]; congr 1; rw [decide_eq_decide]; omega
  · rw [if_neg h]; congr 1; symm; rw [decide_eq_false_iff_not]; omega
theorem spec_l1Number_eq (a : Int) : spec_l1Number.f a = some (numB a) := by
  unfold spec_l1Number.f; rw [spec_l6In_eq]; rfl
theorem impl_isNumber_eq (a : Int) : impl_isNumber.f a = some (numB a) := by
  unfold impl_isNumber.f numB
  by_cases h : a ≥ -5000
  · rw [if_pos h]; congr 1; rw [decide_eq_decide]; omega
  · rw [if_neg h]; congr 1; symm; rw [decide_eq_false_iff_not]; omega
theorem impl_split_l0 {p : Int} (hp : 2 ≤ p) (hp' : p ≤ 1000000000) : ∀ (f : Nat) (n : Int), n ≠ 0 → n.natAbs ≤ f → n.natAbs ≤ 1000000000 → ∀ c : Int, 0 ≤ c → c + f ≤ 2000000000 → Ev (fun k => impl_split.l0 k n p c) (c + (spl f n p).1, (spl f n p).2) := by
  intro f
  induction f with
  | zero => intro n hn hf; omega
  | succ f ih =>
    intro n hn hf hb c hc hcf
    rw [spl]
    by_cases h : n % p = 0
    · obtain ⟨h1, h2, h3⟩ := div_smaller hp hn h
      rw [if_pos h]
      have := ih (n / p) h1 (by omega) (by omega) (c + 1) (by omega) (by omega)
      have e : c + (((spl f (n / p) p).1 + 1 : Nat) : Int) = c + 1 + ((spl f (n / p) p).1 : Int) := by omega
      show Ev (fun k => impl_split.l0 k n p c) (c + (((spl f (n / p) p).1 + 1 : Nat) : Int), (spl f (n / p) p).2)
      rw [e]
      refine Ev.step (fun k => ?_) this
      rw [impl_split.l0, if_neg (by omega), if_pos (tm_zero.2 h), td_dvd h, w64 (by omega) (by omega), w64 (by omega) (by omega)]
    · rw [if_neg h]
      refine Ev.step (f := fun _ => some (c, n)) (fun k => ?_) ?_
      · rw [impl_split.l0, if_neg (by omega), if_neg (fun e => h (tm_zero.1 e))]
      · have e : c + ((0 : Nat) : Int) = c := by omega
        show Ev _ (c + ((0 : Nat) : Int), n)
        rw [e]; exact Ev.now _
theorem impl_split_ev {n p : Int} (hp : 2 ≤ p) (hp' : p ≤ 1000000000) (hn : n ≠ 0) (hb : n.natAbs ≤ 1000000000) : Ev (fun k => impl_split.f k n p) ((vl n p : Int), un n p) := by
  have := impl_split_l0 hp hp' n.natAbs n hn (Nat.le_refl _) hb 0 (by omega) (by omega)
  rw [Int.zero_add] at this
  exact this
theorem spec_l1Size_eq {n : Int} (h : -1000000000000 ≤ n) (h' : n ≤ 1000000000000) : spec_l1Size.f n = some (n.natAbs : Int) := by
  unfold spec_l1Size.f mx
  rw [w64 (by omega) (by omega)]
  congr 1
  split <;> omega
theorem impl_size_eq {n : Int} (h : -1000000000000 ≤ n) (h' : n ≤ 1000000000000) : impl_size.f n = some (n.natAbs : Int) := by
  unfold impl_size.f mx
  rw [w64 (by omega) (by omega)]
  congr 1
  split <;> omega
theorem impl_primesOf_l0 : ∀ (f : Nat) (n : Int) (acc : List Int) (p : Int), 1 ≤ n → n ≤ 1000000 → 2 ≤ p → p ≤ 1000002 → n < f + p → (acc.length : Int) ≤ p → Ev (fun k => impl_primesOf.l0 k n acc p) (pfl f n acc p) := by
  intro f
  have last : ∀ (n : Int) (acc : List Int) (p : Int), 1 ≤ n → n ≤ 1000000 → 2 ≤ p → p ≤ 1000002 → n < p * p → (acc.length : Int) ≤ p → Ev (fun k => impl_primesOf.l0 k n acc p) (if n > 1 then acc ++ [n] else acc) := by
    intro n acc p hn hn' hp hp' hlt hl
    have hb := mul_bd (show 0 ≤ p by omega) hp' (show 0 ≤ p by omega) hp'
    refine Ev.step (f := fun _ => some (if n > 1 then acc ++ [n] else acc)) (fun k => ?_) (Ev.now _)
    rw [impl_primesOf.l0, w64 (by omega) (by omega), if_neg (by omega)]
    by_cases h1 : n > 1
    · rw [if_pos h1, if_pos h1, if_pos (by omega)]
    · rw [if_neg h1, if_neg h1]
  induction f with
  | zero =>
    intro n acc p hn hn' hp hp' hf hl
    rw [pfl]
    exact last n acc p hn hn' hp hp' (sq_gt hp (by omega)) hl
  | succ f ih =>
    intro n acc p hn hn' hp hp' hf hl
    have hb := mul_bd (show 0 ≤ p by omega) hp' (show 0 ≤ p by omega) hp'
    rw [pfl]
    by_cases hle : p * p ≤ n
    · rw [if_pos hle]
      have hpn : p ≤ n := by have := sq_gt hp (Int.le_refl p); omega
      by_cases hm : n % p = 0
      · rw [if_pos hm]
        have hu := un_pos hp hn
        refine Ev.step (f := fun k => (impl_split.f k n p).bind fun bt => impl_primesOf.l0 k bt.2 (acc ++ [p]) (p + 1)) (fun k => ?_) (Ev.bind (impl_split_ev hp (by omega) (by omega) (by omega)) (ih (un n p) (acc ++ [p]) (p + 1) hu.1 (by omega) (by omega) (by omega) (by omega) (by simp; omega)))
        rw [impl_primesOf.l0, w64 (x := p * p) (by omega) (by omega), if_pos hle, if_neg (by omega), if_pos (tm_zero.2 hm), if_pos (by omega), w64 (x := p + 1) (by omega) (by omega)]
      · rw [if_neg hm]
        refine Ev.step (fun k => ?_) (ih n acc (p + 1) hn hn' (by omega) (by omega) (by omega) (by omega))
        rw [impl_primesOf.l0, w64 (x := p * p) (by omega) (by omega), if_pos hle, if_neg (by omega), if_neg (fun e => hm (tm_zero.1 e)), w64 (x := p + 1) (by omega) (by omega)]
    · rw [if_neg hle]
      exact last n acc p hn hn' hp hp' (by omega) hl
theorem impl_primesOf_ev {n : Int} (hn : n ≠ 0) (hb : n.natAbs ≤ 1000000) : Ev (fun k => impl_primesOf.f k n) (primesL n) := by
  unfold impl_primesOf.f
  simp only [impl_size_eq (n := n) (by omega) (by omega), Option.bind_some]
  exact impl_primesOf_l0 n.natAbs n.natAbs [] 2 (by omega) (by omega) (by omega) (by omega) (by omega) (by simp)
theorem spec_l1Core_l1 {N p : Int} (hN : N ≠ 0) (hb : N.natAbs ≤ 5000) (hp : 2 ≤ p) (hp' : p ≤ 5000)
    (next : ∀ c r : Int, c ≠ 0 → 1 ≤ r → N = c * (r * r) → (∀ e, 2 ≤ e → e < p + 1 → ¬ e * e ∣ c) → ∃ a b : Int, IsCore N a b ∧ Ev (fun k => spec_l1Core.l0 k c r (p + 1)) (a, b)) :
    ∀ (f : Nat) (c r : Int), c.natAbs ≤ f → c ≠ 0 → 1 ≤ r → N = c * (r * r) → (∀ e, 2 ≤ e → e < p → ¬ e * e ∣ c) → ∃ a b : Int, IsCore N a b ∧ Ev (fun k => spec_l1Core.l1 k c r p) (a, b) := by
  have hpp := mul_bd (show 0 ≤ p by omega) hp' (show 0 ≤ p by omega) hp'
  have hp4 := mul_bd (show (0 : Int) ≤ 2 by omega) hp (show (0 : Int) ≤ 2 by omega) hp
  intro f
  induction f with
  | zero => intro c r hf hc; omega
  | succ f ih =>
    intro c r hf hc hr he hs
    have hbd := root_le hc hr he
    by_cases h : c % (p * p) = 0
    · obtain ⟨h1, h2, h3⟩ := div_smaller (by omega) hc h
      have hrp := mul_bd (show 0 ≤ r by omega) (show r ≤ 5000 by omega) (show 0 ≤ p by omega) hp'
      have hr1 : 1 ≤ r * p := by have := Int.mul_le_mul hr (show 1 ≤ p by omega) (by omega) (by omega); omega
      obtain ⟨a, b, hcore, hev⟩ := ih (c / (p * p)) (r * p) (by omega) h1 hr1 (by
        rw [he]; conv => lhs; rw [h3]
        grind) (fun e e1 e2 e3 => hs e e1 e2 (by rw [h3]; exact Int.dvd_mul_of_dvd_right e3))
      refine ⟨a, b, hcore, Ev.step (fun k => ?_) hev⟩
      rw [spec_l1Core.l1, w64 (x := p * p) (by omega) (by omega), if_neg (by omega), if_pos (tm_zero.2 h), td_dvd h, w64 (x := c / (p * p)) (by omega) (by omega), w64 (x := r * p) (by omega) (by omega)]
    · obtain ⟨a, b, hcore, hev⟩ := next c r hc hr he (fun e e1 e2 e3 => by
        by_cases ee : e = p
        · subst ee; exact h (Int.emod_eq_zero_of_dvd e3)
        · exact hs e e1 (by omega) e3)
      refine ⟨a, b, hcore, Ev.step (fun k => ?_) hev⟩
      rw [spec_l1Core.l1, w64 (x := p * p) (by omega) (by omega), if_neg (by omega), if_neg (fun e => h (tm_zero.1 e)), w64 (x := p + 1) (by omega) (by omega)]
theorem spec_l1Core_l0 {N : Int} (hN : N ≠ 0) (hb : N.natAbs ≤ 5000) : ∀ (d : Nat) (p c r : Int), 2 ≤ p → p + d = 72 → c ≠ 0 → 1 ≤ r → N = c * (r * r) → (∀ e, 2 ≤ e → e < p → ¬ e * e ∣ c) →
    ∃ a b : Int, IsCore N a b ∧ Ev (fun k => spec_l1Core.l0 k c r p) (a, b) := by
  have last : ∀ (p c r : Int), 2 ≤ p → p ≤ 72 → c ≠ 0 → 1 ≤ r → N = c * (r * r) → (∀ e, 2 ≤ e → e < p → ¬ e * e ∣ c) → (c.natAbs : Int) < p * p → ∃ a b : Int, IsCore N a b ∧ Ev (fun k => spec_l1Core.l0 k c r p) (a, b) := by
    intro p c r hp hp' hc hr he hs hlt
    have hbd := root_le hc hr he
    have hpp := mul_bd (show 0 ≤ p by omega) hp' (show 0 ≤ p by omega) hp'
    refine ⟨c, r, ⟨he, hr, fun e e1 e2 => ?_⟩, Ev.step (f := fun _ => some (c, r)) (fun k => ?_) (Ev.now _)⟩
    · have h1 := Int.le_of_dvd (show (0 : Int) < c.natAbs by omega) (Int.dvd_natAbs.2 e2)
      by_cases h2 : e < p
      · exact hs e e1 h2 e2
      · have := Int.mul_le_mul (show p ≤ e by omega) (show p ≤ e by omega) (by omega) (by omega)
        omega
    · rw [spec_l1Core.l0, spec_l1Size_eq (by omega) (by omega), Option.bind_some, w64 (x := p * p) (by omega) (by omega), if_neg (by omega)]
  intro d
  induction d with
  | zero =>
    intro p c r hp hd hc hr he hs
    have hbd := root_le hc hr he
    have : p = 72 := by omega
    subst this
    exact last 72 c r hp (by omega) hc hr he hs (by omega)
  | succ d ih =>
    intro p c r hp hd hc hr he hs
    have hbd := root_le hc hr he
    have hpp := mul_bd (show 0 ≤ p by omega) (show p ≤ 72 by omega) (show 0 ≤ p by omega) (show p ≤ 72 by omega)
    by_cases hle : p * p ≤ (c.natAbs : Int)
    · obtain ⟨a, b, hcore, hev⟩ := spec_l1Core_l1 hN hb hp (by omega) (fun c r h1 h2 h3 h4 => ih (p + 1) c r (by omega) (by omega) h1 h2 h3 h4) c.natAbs c r (Nat.le_refl _) hc hr he hs
      refine ⟨a, b, hcore, Ev.step (fun k => ?_) hev⟩
      rw [spec_l1Core.l0, spec_l1Size_eq (by omega) (by omega), Option.bind_some, w64 (x := p * p) (by omega) (by omega), if_pos hle]
    · exact last p c r hp (by omega) hc hr he hs (by omega)
theorem spec_l1Core_ev {n : Int} (hn : n ≠ 0) (hb : n.natAbs ≤ 5000) : ∃ a b : Int, IsCore n a b ∧ Ev (fun k => spec_l1Core.f k n) (a, b) :=
  spec_l1Core_l0 hn hb 70 2 n 1 (by omega) (by omega) hn (by omega) (by omega) (fun e e1 e2 => by omega)
theorem spec_CoreOf_ev {n c r : Int} (hn : n ≠ 0) (hb : numB n = true) (h : IsCore n c r) : Ev (fun k => spec_CoreOf.f k n) (c, r, true) := by
  have hb' := numB_true.1 hb
  obtain ⟨a, b, hc, hev⟩ := spec_l1Core_ev hn (by omega)
  obtain ⟨rfl, rfl⟩ := core_unique hn h hc
  unfold spec_CoreOf.f
  simp only [spec_l1Number_eq, Option.bind_some, if_pos hb, if_neg hn]
  exact Ev.bind hev (Ev.now _)
theorem spec_CoreOf_no {n : Int} (h : ¬ (n ≠ 0 ∧ numB n = true)) : Ev (fun k => spec_CoreOf.f k n) (0, 0, false) := by
  unfold spec_CoreOf.f
  simp only [spec_l1Number_eq, Option.bind_some]
  by_cases hb : numB n = true
  · have hn : n = 0 := Classical.byContradiction fun hn => h ⟨hn, hb⟩
    simp only [if_pos hb, if_pos hn]; exact Ev.now _
  · simp only [if_neg hb]; exact Ev.now _
theorem impl_coreOf_l1 {L : List Int} {N p i : Int} (hN : N ≠ 0) (hb : N.natAbs ≤ 5000) (hp : 2 ≤ p) (hp' : p ≤ 5000) (hi : 0 ≤ i) (hi' : i ≤ 100000)
    (next : ∀ c r : Int, c ≠ 0 → 1 ≤ r → N = c * (r * r) → (∀ j : Nat, (j : Int) < i → ¬ rd L j * rd L j ∣ c) → ¬ p * p ∣ c → ∃ a b : Int, IsCore N a b ∧ Ev (fun k => impl_coreOf.l0 k c r L (L.length : Int) (i + 1)) (a, b)) :
    ∀ (f : Nat) (c r : Int), c.natAbs ≤ f → c ≠ 0 → 1 ≤ r → N = c * (r * r) → (∀ j : Nat, (j : Int) < i → ¬ rd L j * rd L j ∣ c) → ∃ a b : Int, IsCore N a b ∧ Ev (fun k => impl_coreOf.l1 k c r p L (L.length : Int) i) (a, b) := by
  have hpp := mul_bd (show 0 ≤ p by omega) hp' (show 0 ≤ p by omega) hp'
  have hp4 := mul_bd (show (0 : Int) ≤ 2 by omega) hp (show (0 : Int) ≤ 2 by omega) hp
  intro f
  induction f with
  | zero => intro c r hf hc; omega
  | succ f ih =>
    intro c r hf hc hr he hs
    have hbd := root_le hc hr he
    by_cases h : c % (p * p) = 0
    · obtain ⟨h1, h2, h3⟩ := div_smaller (by omega) hc h
      have hrp := mul_bd (show 0 ≤ r by omega) (show r ≤ 5000 by omega) (show 0 ≤ p by omega) hp'
      have hr1 : 1 ≤ r * p := by have := Int.mul_le_mul hr (show 1 ≤ p by omega) (by omega) (by omega); omega
      obtain ⟨a, b, hcore, hev⟩ := ih (c / (p * p)) (r * p) (by omega) h1 hr1 (by
        rw [he]; conv => lhs; rw [h3]
        grind) (fun j e2 e3 => hs j e2 (by rw [h3]; exact Int.dvd_mul_of_dvd_right e3))
      refine ⟨a, b, hcore, Ev.step (fun k => ?_) hev⟩
      rw [impl_coreOf.l1, w64 (x := p * p) (by omega) (by omega), if_neg (by omega), if_pos (tm_zero.2 h), td_dvd h, w64 (x := c / (p * p)) (by omega) (by omega), w64 (x := r * p) (by omega) (by omega)]
    · obtain ⟨a, b, hcore, hev⟩ := next c r hc hr he hs (fun e => h (Int.emod_eq_zero_of_dvd e))
      refine ⟨a, b, hcore, Ev.step (fun k => ?_) hev⟩
      rw [impl_coreOf.l1, w64 (x := p * p) (by omega) (by omega), if_neg (by omega), if_neg (fun e => h (tm_zero.1 e)), w64 (x := i + 1) (by omega) (by omega)]
theorem impl_coreOf_l0 {N : Int} (hN : N ≠ 0) (hb : N.natAbs ≤ 5000) : ∀ (d : Nat) (i c r : Int), 0 ≤ i → i + d = ((primesL N).length : Int) → c ≠ 0 → 1 ≤ r → N = c * (r * r) → (∀ j : Nat, (j : Int) < i → ¬ rd (primesL N) j * rd (primesL N) j ∣ c) →
    ∃ a b : Int, IsCore N a b ∧ Ev (fun k => impl_coreOf.l0 k c r (primesL N) ((primesL N).length : Int) i) (a, b) := by
  have hlen := primesL_length hN
  intro d
  induction d with
  | zero =>
    intro i c r hi hd hc hr he hs
    refine ⟨c, r, ⟨he, hr, squarefree_of_primes fun q hq hqq => ?_⟩, Ev.step (f := fun _ => some (c, r)) (fun k => ?_) (Ev.now _)⟩
    · have hqN : q ∣ N := by
        rw [he]; exact Int.dvd_mul_of_dvd_left (Int.dvd_trans (Int.dvd_mul_right ..) hqq)
      have hm : q ∈ primesL N := (mem_primesL hN).2 ⟨hq, hqN⟩
      obtain ⟨j, hj, e⟩ := List.getElem_of_mem hm
      refine hs j (by omega) ?_
      have : rd (primesL N) j = q := by
        unfold rd
        rw [Int.toNat_natCast, List.getD_eq_getElem?_getD, List.getElem?_eq_getElem hj, e]; rfl
      rw [this]; exact hqq
    · rw [impl_coreOf.l0, if_neg (by omega)]
  | succ d ih =>
    intro i c r hi hd hc hr he hs
    have hlt : i.toNat < (primesL N).length := by omega
    have hrd : rd (primesL N) i ∈ primesL N := by
      unfold rd
      rw [List.getD_eq_getElem?_getD, List.getElem?_eq_getElem hlt]
      exact List.getElem_mem hlt
    have hq := primesL_le hN hrd
    obtain ⟨a, b, hcore, hev⟩ := impl_coreOf_l1 (p := rd (primesL N) i) hN hb hq.1 (by omega) hi (by omega) (fun c r h1 h2 h3 h4 h5 => ih (i + 1) c r (by omega) (by omega) h1 h2 h3 (fun j hj => by
      by_cases e : (j : Int) = i
      · rw [e]; exact h5
      · exact h4 j (by omega))) c.natAbs c r (Nat.le_refl _) hc hr he hs
    refine ⟨a, b, hcore, Ev.step (fun k => ?_) hev⟩
    rw [impl_coreOf.l0, if_pos (by omega), if_pos (by omega), if_pos (by omega)]
theorem impl_coreOf_ev {n : Int} (hn : n ≠ 0) (hb : n.natAbs ≤ 5000) : ∃ a b : Int, IsCore n a b ∧ Ev (fun k => impl_coreOf.f k n) (a, b) := by
  obtain ⟨a, b, hc, hev⟩ := impl_coreOf_l0 hn hb (primesL n).length 0 n 1 (by omega) (by omega) hn (by omega) (by omega) (fun j hj => by omega)
  exact ⟨a, b, hc, Ev.bind (impl_primesOf_ev hn (by omega)) hev⟩
theorem impl_CoreOf_ev {n c r : Int} (hn : n ≠ 0) (hb : numB n = true) (h : IsCore n c r) : Ev (fun k => impl_CoreOf.f k n) (c, r, true) := by
  have hb' := numB_true.1 hb
  obtain ⟨a, b, hc, hev⟩ := impl_coreOf_ev hn (by omega)
  obtain ⟨rfl, rfl⟩ := core_unique hn h hc
  unfold impl_CoreOf.f
  simp only [impl_isNumber_eq, Option.bind_some, if_pos hb, if_neg hn]
  exact Ev.bind hev (Ev.now _)
theorem impl_CoreOf_no {n : Int} (h : ¬ (n ≠ 0 ∧ numB n = true)) : Ev (fun k => impl_CoreOf.f k n) (0, 0, false) := by
  unfold impl_CoreOf.f
  simp only [impl_isNumber_eq, Option.bind_some]
  by_cases hn : n = 0
  · simp only [if_pos hn]; exact Ev.now _
  · have hb : ¬ numB n = true := fun hb => h ⟨hn, hb⟩
    simp only [if_neg hn, if_neg hb]; exact Ev.now _
theorem FnExactCoreOf : laws_FnExactCoreOf.Pure := by
  intro n _
  refine Ev.rounds ?_
  unfold laws_FnExactCoreOf.f
  by_cases h : n ≠ 0 ∧ numB n = true
  · have hb := numB_true.1 h.2
    obtain ⟨c, r, hc, _⟩ := spec_l1Core_ev h.1 (show n.natAbs ≤ 5000 by omega)
    refine Ev.bind (spec_CoreOf_ev h.1 h.2 hc) (Ev.bind (impl_CoreOf_ev h.1 h.2 hc) ?_)
    rw [if_pos rfl, if_pos rfl, bne_self_eq_false, if_neg (by simp)]; exact Ev.now _
  · refine Ev.bind (spec_CoreOf_no h) (Ev.bind (impl_CoreOf_no h) ?_)
    rw [if_pos rfl, if_pos rfl, bne_self_eq_false, if_neg (by simp)]; exact Ev.now _

end Go.Proofs.Ytndclhdlkhdlmaa.Pure
