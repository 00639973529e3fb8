/- The program's SymbolModulo and the reference's answer alike at every four integers.
No condition beyond the given statement. The printed functions are tied to plain arithmetic one by one; the law follows at the end. -/
import Derived.Test.YtmepbogcfkecnaaPFnExactSymbolModulox2
import Derived.Test.YtmepbogcfkecnaaM8
set_option linter.unusedVariables false
set_option linter.unusedSimpArgs false
namespace Go.Proofs.Ytmepbogcfkecnaa.Pure
open Go.RowKit Go.Proofs.Ytmepbogcfkecnaa.PFnExactSymbolModulo Go.Proofs.YtmepbogcfkecnaaW.PrintWords Go.Proofs.YtmepbogcfkecnaaW.PrintLast Go.Proofs.YtmepbogcfkecnaaW.PrintMore Go.Proofs.LG

theorem spec_l6In_eq (a b c : Int) : spec_l6In.f a b c = some (decide (b ≤ a ∧ a ≤ c)) := by
  unfold spec_l6In.f
  by_cases h : a ≥ b
  · rw [if_pos h]; congr 1; rw [decide_eq_decide]; omega
  · rw [if_neg h]; congr 1; symm; rw [decide_eq_false_iff_not]; omega
theorem spec_l1Number_eq (a : Int) : spec_l1Number.f a = some (numB a) := by
  unfold spec_l1Number.f; rw [spec_l6In_eq]; rfl
theorem impl_isNumber_eq (a : Int) : impl_isNumber.f a = some (numB a) := by
  unfold impl_isNumber.f numB
  by_cases h : a ≥ -5000
  · rw [if_pos h]; congr 1; rw [decide_eq_decide]; omega
  · rw [if_neg h]; congr 1; symm; rw [decide_eq_false_iff_not]; omega
theorem spec_PrimeIs_l0 {n : Int} (h2 : 2 ≤ n) (hn : n ≤ 5000) : ∀ (d : Nat) (x : Int), 2 ≤ x → x ≤ n → n - x ≤ d → (∀ y, 2 ≤ y → y < x → ¬ y ∣ n) → Ev (fun k => spec_PrimeIs.l0 k n x) (prB n) := by
  intro d
  induction d with
  | zero =>
    intro x hx hxn hd h
    have := sq_gt hx (show n ≤ x by omega)
    have hb := mul_bd (show 0 ≤ x by omega) (show x ≤ 5000 by omega) (show 0 ≤ x by omega) (show x ≤ 5000 by omega)
    refine Ev.step (f := fun _ => some true) (fun k => ?_) ?_
    · rw [spec_PrimeIs.l0, w64 (by omega) (by omega), if_neg (by omega)]
    · rw [prB_true.2 ⟨pr_of_none h2 x (by omega) (by omega) h, hn⟩]; exact Ev.now _
  | succ d ih =>
    intro x hx hxn hd h
    have hb := mul_bd (show 0 ≤ x by omega) (show x ≤ 5000 by omega) (show 0 ≤ x by omega) (show x ≤ 5000 by omega)
    by_cases hle : x * x ≤ n
    · by_cases hdv : x ∣ n
      · have hlt : x < n := by
          have := sq_gt hx (Int.le_refl x); omega
        refine Ev.step (f := fun _ => some false) (fun k => ?_) ?_
        · rw [spec_PrimeIs.l0, w64 (by omega) (by omega), if_pos hle, if_neg (by omega), if_pos (Int.tmod_eq_zero_of_dvd hdv)]
        · rw [prB_false.2 fun hp => hp.1.2 x hx hlt hdv]; exact Ev.now _
      · have hlt : x < n := by
          have := sq_gt hx (Int.le_refl x); omega
        refine Ev.step (f := fun k => spec_PrimeIs.l0 k n (x + 1)) (fun k => ?_) (ih (x + 1) (by omega) (by omega) (by omega) ?_)
        · rw [spec_PrimeIs.l0, w64 (by omega) (by omega), if_pos hle, if_neg (by omega), if_neg (fun e => hdv (Int.dvd_of_tmod_eq_zero e)), w64 (by omega) (by omega)]
        · intro y h1 h2'
          by_cases e : y = x
          · subst e; exact hdv
          · exact h y h1 (by omega)
    · refine Ev.step (f := fun _ => some true) (fun k => ?_) ?_
      · rw [spec_PrimeIs.l0, w64 (by omega) (by omega), if_neg hle]
      · rw [prB_true.2 ⟨pr_of_none h2 x (by omega) (by omega) h, hn⟩]; exact Ev.now _
theorem spec_PrimeIs_ev (n : Int) : Ev (fun k => spec_PrimeIs.f k n) (prB n) := by
  unfold spec_PrimeIs.f
  simp only [spec_l6In_eq, Option.bind_some]
  by_cases h : 2 ≤ n ∧ n ≤ 5000
  · rw [decide_eq_true h]
    simp only [if_true]
    exact spec_PrimeIs_l0 h.1 h.2 (n - 2).toNat 2 (by omega) (by omega) (by omega) fun y h1 h2 => by omega
  · rw [decide_eq_false h]
    rw [prB_false.2 fun hp => h ⟨hp.1.1, hp.2⟩]
    exact Ev.now _
theorem impl_prime_l0 {n : Int} (h2 : 2 ≤ n) (hn : n ≤ 5000) : ∀ (d : Nat) (x : Int), 2 ≤ x → x ≤ n → n - x ≤ d → (∀ y, 2 ≤ y → y < x → ¬ y ∣ n) → Ev (fun k => impl_prime.l0 k n x) (prB n) := by
  intro d
  induction d with
  | zero =>
    intro x hx hxn hd h
    have := sq_gt hx (show n ≤ x by omega)
    have hb := mul_bd (show 0 ≤ x by omega) (show x ≤ 5000 by omega) (show 0 ≤ x by omega) (show x ≤ 5000 by omega)
    refine Ev.step (f := fun _ => some true) (fun k => ?_) ?_
    · rw [impl_prime.l0, w64 (by omega) (by omega), if_neg (by omega), decide_eq_true (by omega)]
    · rw [prB_true.2 ⟨pr_of_none h2 x (by omega) (by omega) h, hn⟩]; exact Ev.now _
  | succ d ih =>
    intro x hx hxn hd h
    have hb := mul_bd (show 0 ≤ x by omega) (show x ≤ 5000 by omega) (show 0 ≤ x by omega) (show x ≤ 5000 by omega)
    by_cases hle : x * x ≤ n
    · by_cases hdv : x ∣ n
      · have hlt : x < n := by
          have := sq_gt hx (Int.le_refl x); omega
        refine Ev.step (f := fun _ => some false) (fun k => ?_) ?_
        · rw [impl_prime.l0, w64 (by omega) (by omega), if_pos hle, if_neg (by omega), if_pos (Int.tmod_eq_zero_of_dvd hdv)]
        · rw [prB_false.2 fun hp => hp.1.2 x hx hlt hdv]; exact Ev.now _
      · have hlt : x < n := by
          have := sq_gt hx (Int.le_refl x); omega
        refine Ev.step (f := fun k => impl_prime.l0 k n (x + 1)) (fun k => ?_) (ih (x + 1) (by omega) (by omega) (by omega) ?_)
        · rw [impl_prime.l0, w64 (by omega) (by omega), if_pos hle, if_neg (by omega), if_neg (fun e => hdv (Int.dvd_of_tmod_eq_zero e)), w64 (by omega) (by omega)]
        · intro y h1 h2'
          by_cases e : y = x
          · subst e; exact hdv
          · exact h y h1 (by omega)
    · refine Ev.step (f := fun _ => some true) (fun k => ?_) ?_
      · rw [impl_prime.l0, w64 (by omega) (by omega), if_neg hle, decide_eq_true (by omega)]
      · rw [prB_true.2 ⟨pr_of_none h2 x (by omega) (by omega) h, hn⟩]; exact Ev.now _
theorem impl_PrimeIs_ev (n : Int) : Ev (fun k => impl_PrimeIs.f k n) (prB n) := by
  unfold impl_PrimeIs.f
  by_cases h5 : n ≤ 5000
  · simp only [if_pos h5]
    refine Ev.bind (a := prB n) ?_ (Ev.now _)
    unfold impl_prime.f
    by_cases h : 2 ≤ n
    · exact impl_prime_l0 h h5 (n - 2).toNat 2 (by omega) (by omega) (by omega) fun y h1 h2 => by omega
    · refine Ev.step (f := fun _ => some false) (fun k => ?_) ?_
      · rw [impl_prime.l0, w64 (by omega) (by omega), if_neg (by omega), decide_eq_false (by omega)]
      · rw [prB_false.2 fun hp => h hp.1.1]; exact Ev.now _
  · simp only [if_neg h5]
    rw [prB_false.2 fun hp => h5 hp.2]
    exact Ev.now _
theorem spec_l1Mod_eq {n m : Int} (h0 : 0 < m) (h1 : m ≤ 1000000000) : spec_l1Mod.f n m = some (n % m) := by
  unfold spec_l1Mod.f; rw [if_neg (by omega), rest_form h0 h1]
theorem impl_rest_eq {n m : Int} (h0 : 0 < m) (h1 : m ≤ 1000000000) : impl_rest.f n m = some (n % m) := by
  unfold impl_rest.f; rw [if_neg (by omega), rest_form h0 h1]
theorem spec_l3Ok_eq (a b : Int) : spec_l3Ok.f a b = some (numB a && numB b && decide (a ≠ 0) && decide (b ≠ 0)) := by
  unfold spec_l3Ok.f
  rw [spec_l1Number_eq, spec_l1Number_eq, Option.bind_some, Option.bind_some]
  by_cases ha : numB a = true
  · rw [if_pos ha, ha]
    by_cases hb : numB b = true
    · rw [if_pos hb, hb]
      by_cases h0 : a = 0
      · rw [if_pos h0]; simp [h0]
      · rw [if_neg h0]; congr 1
        simp [h0, bne, BEq.beq]
    · rw [if_neg hb]; simp [hb]
  · rw [if_neg ha]; simp [ha]
theorem impl_bothNumbers_eq (a b : Int) : impl_bothNumbers.f a b = some (numB a && numB b && decide (a ≠ 0) && decide (b ≠ 0)) := by
  unfold impl_bothNumbers.f
  by_cases h0 : a = 0
  · rw [if_pos h0]; simp [h0]
  · rw [if_neg h0]
    by_cases h1 : b = 0
    · rw [if_pos h1]; simp [h1]
    · rw [if_neg h1, impl_isNumber_eq, impl_isNumber_eq, Option.bind_some, Option.bind_some]
      by_cases ha : numB a = true
      · rw [if_pos ha]; simp [ha, h0, h1]
      · rw [if_neg ha]; simp [ha]
theorem rd_pre (p : List Int) (a : Int) (l : List Int) : rd (p ++ a :: l) (p.length : Int) = a := by
  unfold rd
  rw [Int.toNat_natCast, List.getD_eq_getElem?_getD, List.getElem?_append_right (Nat.le_refl _)]
  simp
theorem set_pre (p : List Int) (a : Int) (l : List Int) (c : Int) : (p ++ a :: l).set ((p.length : Int)).toNat c = p ++ c :: l := by
  rw [Int.toNat_natCast, List.set_append_right _ _ (Nat.le_refl _)]
  simp
theorem impl_power_l0 {n : Int} {K : Nat} (hK : K ≤ 1000000) (hb : ∀ i, i ≤ K → -4000000000000000000 ≤ n ^ i ∧ n ^ i ≤ 4000000000000000000) : ∀ (d : Nat) (i : Nat), i + d = K → Ev (fun k => impl_power.l0 k n (n ^ i) K i) (n ^ K) := by
  intro d
  induction d with
  | zero =>
    intro i hi
    have : i = K := by omega
    subst this
    refine Ev.step (f := fun _ => some (n ^ i)) (fun k => ?_) (Ev.now _)
    rw [impl_power.l0, if_neg (by omega)]
  | succ d ih =>
    intro i hi
    have := ih (i + 1) (by omega)
    have h1 := hb (i + 1) (by omega)
    rw [Int.pow_succ] at h1
    refine Ev.step (fun k => ?_) this
    rw [impl_power.l0, if_pos (by omega), w64 (x := n ^ i * n) (by omega) (by omega), w64 (x := (i : Int) + 1) (by omega) (by omega), ← Int.pow_succ]
    rfl
theorem impl_power_ev {n : Int} {K : Nat} (hK : K ≤ 1000000) (hb : ∀ i, i ≤ K → -4000000000000000000 ≤ n ^ i ∧ n ^ i ≤ 4000000000000000000) : Ev (fun k => impl_power.f k n K) (n ^ K) := by
  have := impl_power_l0 hK hb K 0 (by omega)
  rw [Int.pow_zero] at this
  exact this
theorem impl_power_small {n : Int} (h : n = 0 ∨ n = 1 ∨ n = -1) {K : Nat} (hK : K ≤ 1000000) : Ev (fun k => impl_power.f k n K) (n ^ K) :=
  impl_power_ev hK fun i _ => by rcases pow_small h i with e | e | e <;> rw [e] <;> omega
theorem impl_waysModulo_step {a b p m n x y x14 z : Int} (ha : -5000 ≤ a) (ha' : a ≤ 5000) (hb : -5000 ≤ b) (hb' : b ≤ 5000) (hp : 2 ≤ p) (hm0 : 0 < m) (hm : m ≤ 32) (hx : 0 ≤ x) (hx' : x ≤ 32) (hy : 0 ≤ y) (hy' : y ≤ 32) (hz : 0 ≤ z) (hz' : z < m) (hn : 0 ≤ n) (hn' : n ≤ 1000000000) (k : Nat) :
    impl_waysModulo.l2 (k + 1) a b p m n x y m x14 m y m z = impl_waysModulo.l2 k a b p m (n + if W a b p m x y z = true then 1 else 0) x y m x14 m y m (z + 1) := by
  have b1 := mul_bd hz (show z ≤ 32 by omega) hz (show z ≤ 32 by omega)
  have b2 := abs_mul_bd ha ha' (show -32 ≤ x by omega) hx'
  have b3 := abs_mul_bd b2.1 b2.2 (show -32 ≤ x by omega) hx'
  have b4 := abs_mul_bd hb hb' (show -32 ≤ y by omega) hy'
  have b5 := abs_mul_bd b4.1 b4.2 (show -32 ≤ y by omega) hy'
  have we : wrap64 (wrap64 (wrap64 (z * z) - wrap64 (wrap64 (a * x) * x)) - wrap64 (wrap64 (b * y) * y)) = z * z - a * x * x - b * y * y := by
    rw [w64 (x := z * z) (by omega) (by omega), w64 (x := a * x) (by omega) (by omega), w64 (x := a * x * x) (by omega) (by omega), w64 (x := b * y) (by omega) (by omega), w64 (x := b * y * y) (by omega) (by omega), w64 (x := z * z - a * x * x) (by omega) (by omega), w64 (by omega) (by omega)]
  have w1 : wrap64 (z + 1) = z + 1 := w64 (by omega) (by omega)
  have w2 : wrap64 (n + 1) = n + 1 := w64 (by omega) (by omega)
  rw [impl_waysModulo.l2, if_pos hz', if_neg (by omega), we, w1, w2, tm hx, tm hy, tm hz, impl_rest_eq hm0 (by omega)]
  simp only [Option.bind_some]
  unfold W
  by_cases h1 : x % p = 0
  · rw [if_pos h1]
    by_cases h2 : y % p = 0
    · rw [if_pos h2]
      by_cases h3 : z % p = 0
      · rw [if_pos h3, if_neg (by simp [h1, h2, h3]), Int.add_zero]
      · rw [if_neg h3]
        by_cases h4 : (z * z - a * x * x - b * y * y) % m = 0
        · rw [if_pos h4, if_pos (by simp [h3, h4])]
        · rw [if_neg h4, if_neg (by simp [h4]), Int.add_zero]
    · rw [if_neg h2]
      by_cases h4 : (z * z - a * x * x - b * y * y) % m = 0
      · rw [if_pos h4, if_pos (by simp [h2, h4])]
      · rw [if_neg h4, if_neg (by simp [h4]), Int.add_zero]
  · rw [if_neg h1]
    by_cases h4 : (z * z - a * x * x - b * y * y) % m = 0
    · rw [if_pos h4, if_pos (by simp [h1, h4])]
    · rw [if_neg h4, if_neg (by simp [h4]), Int.add_zero]
theorem impl_waysModulo_l2 {a b p m x y x14 r : Int} (ha : -5000 ≤ a) (ha' : a ≤ 5000) (hb : -5000 ≤ b) (hb' : b ≤ 5000) (hp : 2 ≤ p) (hm0 : 0 < m) (hm : m ≤ 32) (hx : 0 ≤ x) (hx' : x ≤ 32) (hy : 0 ≤ y) (hy' : y ≤ 32) :
    ∀ (d : Nat) (z n : Int), 0 ≤ z → z + d = m → 0 ≤ n → n + d ≤ 1000000000 → Ev (fun k => impl_waysModulo.l1 k a b p m (n + cntI (fun z => W a b p m x y z) d z) x m x14 m (wrap64 (y + 1))) r → Ev (fun k => impl_waysModulo.l2 k a b p m n x y m x14 m y m z) r := by
  intro d
  induction d with
  | zero =>
    intro z n hz hd hn hn' h
    refine Ev.step (fun k => ?_) h
    rw [impl_waysModulo.l2, if_neg (by omega), cntI, Int.add_zero]
  | succ d ih =>
    intro z n hz hd hn hn' h
    refine Ev.step (fun k => impl_waysModulo_step ha ha' hb hb' hp hm0 hm hx hx' hy hy' hz (by omega) hn (by omega) k) (ih (z + 1) _ (by omega) (by omega) (by split <;> omega) (by split <;> omega) ?_)
    rw [Int.add_assoc]; exact h
theorem impl_waysModulo_l1 {a b p m x r : Int} (ha : -5000 ≤ a) (ha' : a ≤ 5000) (hb : -5000 ≤ b) (hb' : b ≤ 5000) (hp : 2 ≤ p) (hm0 : 0 < m) (hm : m ≤ 32) (hx : 0 ≤ x) (hx' : x ≤ 32) :
    ∀ (d : Nat) (y n : Int), 0 ≤ y → y + d = m → 0 ≤ n → n + 32 * d ≤ 1000000 → Ev (fun k => impl_waysModulo.l0 k a b p m (n + sumI (fun y => cntI (fun z => W a b p m x y z) m.toNat 0) d y) m (wrap64 (x + 1))) r → Ev (fun k => impl_waysModulo.l1 k a b p m n x m x m y) r := by
  intro d
  induction d with
  | zero =>
    intro y n hy hd hn hn' h
    refine Ev.step (fun k => ?_) h
    rw [impl_waysModulo.l1, if_neg (by omega), sumI, Int.add_zero]
  | succ d ih =>
    intro y n hy hd hn hn' h
    have hc := cntI_bd (fun z => W a b p m x y z) m.toNat 0
    refine Ev.step (f := fun k => impl_waysModulo.l2 k a b p m n x y m x m y m 0) (fun k => by rw [impl_waysModulo.l1, if_pos (by omega)]) ?_
    refine impl_waysModulo_l2 ha ha' hb hb' hp hm0 hm hx hx' hy (by omega) m.toNat 0 n (by omega) (by omega) hn (by omega) ?_
    rw [w64 (x := y + 1) (by omega) (by omega)]
    refine ih (y + 1) _ (by omega) (by omega) (by omega) (by omega) ?_
    rw [Int.add_assoc]; exact h
theorem impl_waysModulo_l0 {a b p m : Int} (ha : -5000 ≤ a) (ha' : a ≤ 5000) (hb : -5000 ≤ b) (hb' : b ≤ 5000) (hp : 2 ≤ p) (hm0 : 0 < m) (hm : m ≤ 32) :
    ∀ (d : Nat) (x n : Int), 0 ≤ x → x + d = m → 0 ≤ n → n + 1024 * d ≤ 100000 → Ev (fun k => impl_waysModulo.l0 k a b p m n m x) (n + sumI (fun x => sumI (fun y => cntI (fun z => W a b p m x y z) m.toNat 0) m.toNat 0) d x) := by
  intro d
  induction d with
  | zero =>
    intro x n hx hd hn hn'
    refine Ev.step (f := fun _ => some n) (fun k => ?_) ?_
    · rw [impl_waysModulo.l0, if_neg (by omega)]
    · rw [sumI, Int.add_zero]; exact Ev.now _
  | succ d ih =>
    intro x n hx hd hn hn'
    have hc := sumI_bd (F := fun y => cntI (fun z => W a b p m x y z) m.toNat 0) (B := 32) (fun y => by have := cntI_bd (fun z => W a b p m x y z) m.toNat 0; omega) m.toNat 0
    refine Ev.step (f := fun k => impl_waysModulo.l1 k a b p m n x m x m 0) (fun k => by rw [impl_waysModulo.l0, if_pos (by omega)]) ?_
    refine impl_waysModulo_l1 ha ha' hb hb' hp hm0 hm hx (by omega) m.toNat 0 n (by omega) (by omega) hn (by omega) ?_
    rw [w64 (x := x + 1) (by omega) (by omega)]
    have := ih (x + 1) (n + sumI (fun y => cntI (fun z => W a b p m x y z) m.toNat 0) m.toNat 0) (by omega) (by omega) (by omega) (by omega)
    rw [Int.add_assoc] at this
    exact this
theorem impl_waysModulo_ev {a b p m : Int} (ha : -5000 ≤ a) (ha' : a ≤ 5000) (hb : -5000 ≤ b) (hb' : b ≤ 5000) (hp : 2 ≤ p) (hm0 : 0 < m) (hm : m ≤ 32) : Ev (fun k => impl_waysModulo.f k a b p m) (cways a b p m) := by
  have := impl_waysModulo_l0 ha ha' hb hb' hp hm0 hm m.toNat 0 0 (by omega) (by omega) (by omega) (by omega)
  rw [Int.zero_add] at this
  exact this
theorem impl_power_pos {p : Int} (hp : 2 ≤ p) (hp' : p ≤ 5000) {K : Nat} (hK : K ≤ 5) : Ev (fun k => impl_power.f k p K) (p ^ K) := by
  refine impl_power_ev (by omega) fun i hi => ?_
  have h1 := pow_pos' (show 1 ≤ p by omega) i
  have h2 := pow_mono (show 1 ≤ p by omega) (show i ≤ 5 by omega)
  have h3 : p ^ 5 = p * p * p * p * p := by rw [Int.pow_succ, Int.pow_succ, Int.pow_succ, Int.pow_succ, Int.pow_succ, Int.pow_zero, Int.one_mul]
  have m1 := mul_bd (show 0 ≤ p by omega) hp' (show 0 ≤ p by omega) hp'
  have m2 := mul_bd m1.1 m1.2 (show 0 ≤ p by omega) hp'
  have m3 := mul_bd m2.1 m2.2 (show 0 ≤ p by omega) hp'
  have m4 := mul_bd m3.1 m3.2 (show 0 ≤ p by omega) hp'
  rw [h3] at h2
  exact ⟨by omega, by omega⟩
theorem impl_SymbolModulo_no (a b p c : Int) : Ev (fun k => impl_SymbolModulo.j0 k a b p c true) false := by
  refine Ev.step (f := fun _ => some false) (fun k => ?_) (Ev.now _)
  rw [impl_SymbolModulo.j0, if_pos rfl]
theorem moduloOf_no {a b p c : Int} (h : ¬ (a ≠ 0 ∧ b ≠ 0 ∧ numB a = true ∧ numB b = true ∧ prB p = true ∧ (1 ≤ c ∧ c ≤ 5 ∧ p ^ c.toNat ≤ 32))) : moduloOf a b p c = false := by
  unfold moduloOf
  rw [Bool.and_eq_false_iff]
  left
  rw [← Bool.not_eq_true]
  intro h'
  simp only [Bool.and_eq_true, decide_eq_true_eq] at h'
  exact h ⟨h'.1.1.1.1.1, h'.1.1.1.1.2, h'.1.1.1.2, h'.1.1.2, h'.1.2, h'.2⟩
theorem moduloOf_yes {a b p c : Int} (h : a ≠ 0 ∧ b ≠ 0 ∧ numB a = true ∧ numB b = true ∧ prB p = true ∧ (1 ≤ c ∧ c ≤ 5 ∧ p ^ c.toNat ≤ 32)) : moduloOf a b p c = tries a b p (p ^ c.toNat) := by
  unfold moduloOf
  rw [decide_eq_true h.1, decide_eq_true h.2.1, h.2.2.1, h.2.2.2.1, h.2.2.2.2.1, decide_eq_true h.2.2.2.2.2]; rfl
theorem impl_SymbolModulo_ev (a b p c : Int) : Ev (fun k => impl_SymbolModulo.f k a b p c) (moduloOf a b p c) := by
  unfold impl_SymbolModulo.f
  simp only [impl_bothNumbers_eq, Option.bind_some]
  by_cases h : (numB a && numB b && decide (a ≠ 0) && decide (b ≠ 0)) = true
  · simp only [if_pos h]
    simp only [Bool.and_eq_true, decide_eq_true_eq] at h
    refine Ev.bind (impl_PrimeIs_ev p) ?_
    by_cases hp : prB p = true
    · simp only [if_pos hp]
      have ha := numB_true.1 h.1.1.1
      have hb := numB_true.1 h.1.1.2
      have hpp := prB_true.1 hp
      have h2 := hpp.1.1
      by_cases h1 : c < 1
      · simp only [if_pos h1]; rw [moduloOf_no (by omega)]; exact impl_SymbolModulo_no ..
      · simp only [if_neg h1]
        by_cases h5 : c > 5
        · simp only [if_pos h5]; rw [moduloOf_no (by omega)]; exact impl_SymbolModulo_no ..
        · simp only [if_neg h5]
          have hpow := impl_power_pos h2 hpp.2 (K := c.toNat) (by omega)
          rw [Int.toNat_of_nonneg (by omega)] at hpow
          have hpos := pow_pos' (show 1 ≤ p by omega) c.toNat
          refine Ev.bind hpow ?_
          by_cases h32 : p ^ c.toNat > 32
          · rw [decide_eq_true h32, moduloOf_no (fun g => by have := g.2.2.2.2.2.2.2; omega)]; exact impl_SymbolModulo_no ..
          · rw [decide_eq_false h32, moduloOf_yes ⟨h.1.2, h.2, h.1.1.1, h.1.1.2, hp, by omega, by omega, by omega⟩]
            refine Ev.step (fun k => by rw [impl_SymbolModulo.j0, if_neg (by simp)]) ?_
            refine Ev.bind hpow (Ev.bind (impl_waysModulo_ev ha.1 ha.2 hb.1 hb.2 h2 (by omega) (by omega)) ?_)
            rw [ways_any]; exact Ev.now _
    · simp only [if_neg hp]; rw [moduloOf_no (fun g => hp g.2.2.2.2.1)]; exact impl_SymbolModulo_no ..
  · simp only [if_neg h]
    rw [moduloOf_no (fun g => h (by simp [g.1, g.2.1, g.2.2.1, g.2.2.2.1]))]; exact impl_SymbolModulo_no ..
theorem swap_mod' {a b m x y z : Int} : (a * x * x + b * y * y - z * z) % m = 0 ↔ (z * z - a * x * x - b * y * y) % m = 0 := by
  have e : a * x * x + b * y * y - z * z = -(z * z - a * x * x - b * y * y) := by omega
  rw [e]
  constructor
  · intro h; exact Int.emod_eq_zero_of_dvd (Int.dvd_neg.1 (Int.dvd_of_emod_eq_zero h))
  · intro h; exact Int.emod_eq_zero_of_dvd (Int.dvd_neg.2 (Int.dvd_of_emod_eq_zero h))
theorem spec_SymbolModulo_step {a b p m x y z : Int} (ha : -5000 ≤ a) (ha' : a ≤ 5000) (hb : -5000 ≤ b) (hb' : b ≤ 5000) (hp : 2 ≤ p) (hm0 : 0 < m) (hm : m ≤ 32) (hx : 0 ≤ x) (hx' : x ≤ 32) (hy : 0 ≤ y) (hy' : y ≤ 32) (hz : 0 ≤ z) (hz' : z < m) (k : Nat) :
    spec_SymbolModulo.l3 (k + 1) a b p m x y z = if W a b p m x y z = true then some true else spec_SymbolModulo.l3 k a b p m x y (z + 1) := by
  have b1 := mul_bd hz (show z ≤ 32 by omega) hz (show z ≤ 32 by omega)
  have b2 := abs_mul_bd ha ha' (show -32 ≤ x by omega) hx'
  have b3 := abs_mul_bd b2.1 b2.2 (show -32 ≤ x by omega) hx'
  have b4 := abs_mul_bd hb hb' (show -32 ≤ y by omega) hy'
  have b5 := abs_mul_bd b4.1 b4.2 (show -32 ≤ y by omega) hy'
  have we : wrap64 (wrap64 (wrap64 (wrap64 (a * x) * x) + wrap64 (wrap64 (b * y) * y)) - wrap64 (z * z)) = a * x * x + b * y * y - z * z := by
    rw [w64 (x := z * z) (by omega) (by omega), w64 (x := a * x) (by omega) (by omega), w64 (x := a * x * x) (by omega) (by omega), w64 (x := b * y) (by omega) (by omega), w64 (x := b * y * y) (by omega) (by omega), w64 (x := a * x * x + b * y * y) (by omega) (by omega), w64 (by omega) (by omega)]
  have w1 : wrap64 (z + 1) = z + 1 := w64 (by omega) (by omega)
  rw [spec_SymbolModulo.l3, if_pos hz', if_neg (by omega), we, w1, tm hx, tm hy, tm hz, spec_l1Mod_eq hm0 (by omega)]
  simp only [Option.bind_some]
  unfold W
  by_cases h1 : x % p = 0
  · rw [if_pos h1]
    by_cases h2 : y % p = 0
    · rw [if_pos h2]
      by_cases h3 : z % p = 0
      · rw [if_pos h3, if_neg (by simp [h1, h2, h3])]
      · rw [if_neg h3]
        by_cases h4 : (a * x * x + b * y * y - z * z) % m = 0
        · rw [if_pos h4, if_pos (by simp [h3, swap_mod'.1 h4])]
        · rw [if_neg h4, if_neg (by simp [mt swap_mod'.2 h4])]
    · rw [if_neg h2]
      by_cases h4 : (a * x * x + b * y * y - z * z) % m = 0
      · rw [if_pos h4, if_pos (by simp [h2, swap_mod'.1 h4])]
      · rw [if_neg h4, if_neg (by simp [mt swap_mod'.2 h4])]
  · rw [if_neg h1]
    by_cases h4 : (a * x * x + b * y * y - z * z) % m = 0
    · rw [if_pos h4, if_pos (by simp [h1, swap_mod'.1 h4])]
    · rw [if_neg h4, if_neg (by simp [mt swap_mod'.2 h4])]
theorem spec_SymbolModulo_l3 {a b p m x y : Int} {r : Bool} (ha : -5000 ≤ a) (ha' : a ≤ 5000) (hb : -5000 ≤ b) (hb' : b ≤ 5000) (hp : 2 ≤ p) (hm0 : 0 < m) (hm : m ≤ 32) (hx : 0 ≤ x) (hx' : x ≤ 32) (hy : 0 ≤ y) (hy' : y ≤ 32) (h : Ev (fun k => spec_SymbolModulo.l2 k a b p m x (y + 1)) r) :
    ∀ (d : Nat) (z : Int), 0 ≤ z → z + d = m → Ev (fun k => spec_SymbolModulo.l3 k a b p m x y z) (anyI (fun z => W a b p m x y z) d z || r) := by
  intro d
  induction d with
  | zero =>
    intro z hz hd
    refine Ev.step (fun k => ?_) h
    rw [spec_SymbolModulo.l3, if_neg (by omega), w64 (x := y + 1) (by omega) (by omega)]
  | succ d ih =>
    intro z hz hd
    rw [anyI]
    by_cases hw : W a b p m x y z = true
    · refine Ev.step (f := fun _ => some true) (fun k => ?_) ?_
      · rw [spec_SymbolModulo_step ha ha' hb hb' hp hm0 hm hx hx' hy hy' hz (by omega), if_pos hw]
      · rw [hw]; exact Ev.now _
    · refine Ev.step (fun k => ?_) (f := fun k => spec_SymbolModulo.l3 k a b p m x y (z + 1)) ?_
      · rw [spec_SymbolModulo_step ha ha' hb hb' hp hm0 hm hx hx' hy hy' hz (by omega), if_neg hw]
      · rw [Bool.not_eq_true] at hw
        rw [hw, Bool.false_or]; exact ih (z + 1) (by omega) (by omega)
theorem spec_SymbolModulo_l2 {a b p m x : Int} {r : Bool} (ha : -5000 ≤ a) (ha' : a ≤ 5000) (hb : -5000 ≤ b) (hb' : b ≤ 5000) (hp : 2 ≤ p) (hm0 : 0 < m) (hm : m ≤ 32) (hx : 0 ≤ x) (hx' : x ≤ 32) (h : Ev (fun k => spec_SymbolModulo.l1 k a b p m (x + 1)) r) :
    ∀ (d : Nat) (y : Int), 0 ≤ y → y + d = m → Ev (fun k => spec_SymbolModulo.l2 k a b p m x y) (anyI (fun y => anyI (fun z => W a b p m x y z) m.toNat 0) d y || r) := by
  intro d
  induction d with
  | zero =>
    intro y hy hd
    refine Ev.step (fun k => ?_) h
    rw [spec_SymbolModulo.l2, if_neg (by omega), w64 (x := x + 1) (by omega) (by omega)]
  | succ d ih =>
    intro y hy hd
    rw [anyI, Bool.or_assoc]
    refine Ev.step (f := fun k => spec_SymbolModulo.l3 k a b p m x y 0) (fun k => by rw [spec_SymbolModulo.l2, if_pos (by omega)]) ?_
    exact spec_SymbolModulo_l3 ha ha' hb hb' hp hm0 hm hx hx' hy (by omega) (ih (y + 1) (by omega) (by omega)) m.toNat 0 (by omega) (by omega)
theorem spec_SymbolModulo_l1 {a b p m : Int} (ha : -5000 ≤ a) (ha' : a ≤ 5000) (hb : -5000 ≤ b) (hb' : b ≤ 5000) (hp : 2 ≤ p) (hm0 : 0 < m) (hm : m ≤ 32) :
    ∀ (d : Nat) (x : Int), 0 ≤ x → x + d = m → Ev (fun k => spec_SymbolModulo.l1 k a b p m x) (anyI (fun x => anyI (fun y => anyI (fun z => W a b p m x y z) m.toNat 0) m.toNat 0) d x) := by
  intro d
  induction d with
  | zero =>
    intro x hx hd
    refine Ev.step (f := fun _ => some false) (fun k => ?_) (Ev.now _)
    rw [spec_SymbolModulo.l1, if_neg (by omega)]
  | succ d ih =>
    intro x hx hd
    rw [anyI]
    refine Ev.step (f := fun k => spec_SymbolModulo.l2 k a b p m x 0) (fun k => by rw [spec_SymbolModulo.l1, if_pos (by omega)]) ?_
    exact spec_SymbolModulo_l2 ha ha' hb hb' hp hm0 hm hx (by omega) (ih (x + 1) (by omega) (by omega)) m.toNat 0 (by omega) (by omega)
theorem spec_SymbolModulo_l0 {a b p c : Int} (ha : -5000 ≤ a) (ha' : a ≤ 5000) (hb : -5000 ≤ b) (hb' : b ≤ 5000) (hp : 2 ≤ p) (hp' : p ≤ 31) (hc : c ≤ 5) :
    ∀ (d : Nat) (i : Nat), (i : Int) + d = c → Ev (fun k => spec_SymbolModulo.l0 k a b p c (p ^ i) i) (if p ^ c.toNat ≤ 32 then tries a b p (p ^ c.toNat) else false) := by
  intro d
  induction d with
  | zero =>
    intro i hd
    have hpos := pow_pos' (show 1 ≤ p by omega) i
    have e : c.toNat = i := by omega
    rw [e]
    by_cases h : p ^ i ≤ 32
    · rw [if_pos h]
      refine Ev.step (f := fun k => spec_SymbolModulo.l1 k a b p (p ^ i) 0) (fun k => by rw [spec_SymbolModulo.l0, if_neg (by omega), if_neg (by omega)]) ?_
      exact spec_SymbolModulo_l1 ha ha' hb hb' hp (by omega) h (p ^ i).toNat 0 (by omega) (by omega)
    · rw [if_neg h]
      refine Ev.step (f := fun _ => some false) (fun k => by rw [spec_SymbolModulo.l0, if_neg (by omega), if_pos (by omega)]) (Ev.now _)
  | succ d ih =>
    intro i hd
    have hpos := pow_pos' (show 1 ≤ p by omega) i
    have hmon := pow_mono (show 1 ≤ p by omega) (show i ≤ 4 by omega)
    have h4 : p ^ 4 = p * p * p * p := by rw [Int.pow_succ, Int.pow_succ, Int.pow_succ, Int.pow_succ, Int.pow_zero, Int.one_mul]
    have m1 := mul_bd (show 0 ≤ p by omega) hp' (show 0 ≤ p by omega) hp'
    have m2 := mul_bd m1.1 m1.2 (show 0 ≤ p by omega) hp'
    have m3 := mul_bd m2.1 m2.2 (show 0 ≤ p by omega) hp'
    rw [h4] at hmon
    have m4 := mul_bd (show 0 ≤ p ^ i by omega) (show p ^ i ≤ 31 * 31 * 31 * 31 by omega) (show 0 ≤ p by omega) hp'
    refine Ev.step (fun k => ?_) (ih (i + 1) (by omega))
    rw [spec_SymbolModulo.l0, if_pos (by omega), w64 (x := p ^ i * p) (by omega) (by omega), w64 (x := (i : Int) + 1) (by omega) (by omega), ← Int.pow_succ]
    rfl
theorem spec_SymbolModulo_no (a b p c : Int) : Ev (fun k => spec_SymbolModulo.j0 k a b p c true) false := by
  refine Ev.step (f := fun _ => some false) (fun k => ?_) (Ev.now _)
  rw [spec_SymbolModulo.j0, if_pos rfl]
theorem moduloOf_no' {a b p c : Int} (h : ¬ (a ≠ 0 ∧ b ≠ 0 ∧ numB a = true ∧ numB b = true ∧ prB p = true ∧ (1 ≤ c ∧ c ≤ 5 ∧ p ^ c.toNat ≤ 32))) : moduloOf a b p c = false := by
  unfold moduloOf
  rw [Bool.and_eq_false_iff]
  left
  rw [← Bool.not_eq_true]
  intro h'
  simp only [Bool.and_eq_true, decide_eq_true_eq] at h'
  exact h ⟨h'.1.1.1.1.1, h'.1.1.1.1.2, h'.1.1.1.2, h'.1.1.2, h'.1.2, h'.2⟩
theorem moduloOf_yes' {a b p c : Int} (h : a ≠ 0 ∧ b ≠ 0 ∧ numB a = true ∧ numB b = true ∧ prB p = true ∧ (1 ≤ c ∧ c ≤ 5 ∧ p ^ c.toNat ≤ 32)) : moduloOf a b p c = tries a b p (p ^ c.toNat) := by
  unfold moduloOf
  rw [decide_eq_true h.1, decide_eq_true h.2.1, h.2.2.1, h.2.2.2.1, h.2.2.2.2.1, decide_eq_true h.2.2.2.2.2]; rfl
theorem spec_SymbolModulo_ev (a b p c : Int) : Ev (fun k => spec_SymbolModulo.f k a b p c) (moduloOf a b p c) := by
  unfold spec_SymbolModulo.f
  simp only [spec_l3Ok_eq, spec_l6In_eq, Option.bind_some]
  by_cases h : (numB a && numB b && decide (a ≠ 0) && decide (b ≠ 0)) = true
  · simp only [if_pos h]
    simp only [Bool.and_eq_true, decide_eq_true_eq] at h
    refine Ev.bind (spec_PrimeIs_ev p) ?_
    by_cases hp : prB p = true
    · simp only [if_pos hp]
      have ha := numB_true.1 h.1.1.1
      have hb := numB_true.1 h.1.1.2
      have hpp := prB_true.1 hp
      have h2 := hpp.1.1
      by_cases h31 : p > 31
      · simp only [if_pos h31]
        rw [moduloOf_no' (fun g => by
          have h1 := g.2.2.2.2.2
          have h3 := pow_mono (show 1 ≤ p by omega) (show 1 ≤ c.toNat by omega)
          rw [Int.pow_succ, Int.pow_zero, Int.one_mul] at h3
          have : p = 32 := by omega
          exact hpp.1.2 2 (by omega) (by omega) (this ▸ (by decide)))]
        exact spec_SymbolModulo_no ..
      · simp only [if_neg h31]
        by_cases hc : 1 ≤ c ∧ c ≤ 5
        · rw [decide_eq_true hc]
          refine Ev.step (fun k => by rw [spec_SymbolModulo.j0, if_neg (by simp)]) ?_
          have := spec_SymbolModulo_l0 ha.1 ha.2 hb.1 hb.2 h2 (show p ≤ 31 by omega) hc.2 c.toNat 0 (by omega)
          rw [Int.pow_zero] at this
          by_cases h32 : p ^ c.toNat ≤ 32
          · rw [if_pos h32] at this
            rw [moduloOf_yes' ⟨h.1.2, h.2, h.1.1.1, h.1.1.2, hp, by omega, by omega, h32⟩]
            exact this
          · rw [if_neg h32] at this
            rw [moduloOf_no' (fun g => h32 g.2.2.2.2.2.2.2)]
            exact this
        · rw [decide_eq_false hc, moduloOf_no' (fun g => hc ⟨g.2.2.2.2.2.1, g.2.2.2.2.2.2.1⟩)]
          exact spec_SymbolModulo_no ..
    · simp only [if_neg hp]; rw [moduloOf_no' (fun g => hp g.2.2.2.2.1)]; exact spec_SymbolModulo_no ..
  · simp only [if_neg h]
    rw [moduloOf_no' (fun g => h (by simp [g.1, g.2.1, g.2.2.1, g.2.2.2.1]))]; exact spec_SymbolModulo_no ..
theorem FnExactSymbolModulo : laws_FnExactSymbolModulo.Pure := by
  intro a b p c _ _ _ _
  refine Ev.rounds ?_
  unfold laws_FnExactSymbolModulo.f
  refine Ev.bind (spec_SymbolModulo_ev a b p c) (Ev.bind (impl_SymbolModulo_ev a b p c) ?_)
  rw [bne_self_eq_false, if_neg (by simp)]; exact Ev.now _

end Go.Proofs.Ytmepbogcfkecnaa.Pure
