/- The program's SymbolWays and the reference's answer alike at every three integers.
No condition beyond the given statement. The printed functions are tied to plain arithmetic one by one; the law follows at the end. -/
import Derived.Test.YtmepbogcfkecnaaPFnExactSymbolWaysx2
import Derived.Test.YtmepbogcfkecnaaM8
set_option linter.unusedVariables false
set_option linter.unusedSimpArgs false
namespace Go.Proofs.Ytmepbogcfkecnaa.Pure
open Go.RowKit Go.Proofs.Ytmepbogcfkecnaa.PFnExactSymbolWays Go.Proofs.YtmepbogcfkecnaaW.PrintWords Go.Proofs.YtmepbogcfkecnaaW.PrintLast Go.Proofs.YtmepbogcfkecnaaW.PrintMore Go.Proofs.LG

theorem spec_l6In_eq (a b c : Int) : spec_l6In.f a b c = some (decide (b ≤ a ∧ a ≤ c)) := by
  unfold spec_l6In.f
  by_cases h : a ≥ b
  · rw [if_pos h]; congr 1; rw [decide_eq_decide]; omega
  · rw [if_neg h]; congr 1; symm; rw [decide_eq_false_iff_not]; omega
theorem spec_l1Number_eq (a : Int) : spec_l1Number.f a = some (numB a) := by
  unfold spec_l1Number.f; rw [spec_l6In_eq]; rfl
theorem impl_isNumber_eq (a : Int) : impl_isNumber.f a = some (numB a) := by
  unfold impl_isNumber.f numB
  by_cases h : a ≥ -5000
  · rw [if_pos h]; congr 1; rw [decide_eq_decide]; omega
  · rw [if_neg h]; congr 1; symm; rw [decide_eq_false_iff_not]; omega
theorem spec_PrimeIs_l0 {n : Int} (h2 : 2 ≤ n) (hn : n ≤ 5000) : ∀ (d : Nat) (x : Int), 2 ≤ x → x ≤ n → n - x ≤ d → (∀ y, 2 ≤ y → y < x → ¬ y ∣ n) → Ev (fun k => spec_PrimeIs.l0 k n x) (prB n) := by
  intro d
  induction d with
  | zero =>
    intro x hx hxn hd h
    have := sq_gt hx (show n ≤ x by omega)
    have hb := mul_bd (show 0 ≤ x by omega) (show x ≤ 5000 by omega) (show 0 ≤ x by omega) (show x ≤ 5000 by omega)
    refine Ev.step (f := fun _ => some true) (fun k => ?_) ?_
    · rw [spec_PrimeIs.l0, w64 (by omega) (by omega), if_neg (by omega)]
    · rw [prB_true.2 ⟨pr_of_none h2 x (by omega) (by omega) h, hn⟩]; exact Ev.now _
  | succ d ih =>
    intro x hx hxn hd h
    have hb := mul_bd (show 0 ≤ x by omega) (show x ≤ 5000 by omega) (show 0 ≤ x by omega) (show x ≤ 5000 by omega)
    by_cases hle : x * x ≤ n
    · by_cases hdv : x ∣ n
      · have hlt : x < n := by
          have := sq_gt hx (Int.le_refl x); omega
        refine Ev.step (f := fun _ => some false) (fun k => ?_) ?_
        · rw [spec_PrimeIs.l0, w64 (by omega) (by omega), if_pos hle, if_neg (by omega), if_pos (Int.tmod_eq_zero_of_dvd hdv)]
        · rw [prB_false.2 fun hp => hp.1.2 x hx hlt hdv]; exact Ev.now _
      · have hlt : x < n := by
          have := sq_gt hx (Int.le_refl x); omega
        refine Ev.step (f := fun k => spec_PrimeIs.l0 k n (x + 1)) (fun k => ?_) (ih (x + 1) (by omega) (by omega) (by omega) ?_)
        · rw [spec_PrimeIs.l0, w64 (by omega) (by omega), if_pos hle, if_neg (by omega), if_neg (fun e => hdv (Int.dvd_of_tmod_eq_zero e)), w64 (by omega) (by omega)]
        · intro y h1 h2'
          by_cases e : y = x
          · subst e; exact hdv
          · exact h y h1 (by omega)
    · refine Ev.step (f := fun _ => some true) (fun k => ?_) ?_
      · rw [spec_PrimeIs.l0, w64 (by omega) (by omega), if_neg hle]
      · rw [prB_true.2 ⟨pr_of_none h2 x (by omega) (by omega) h, hn⟩]; exact Ev.now _
theorem spec_PrimeIs_ev (n : Int) : Ev (fun k => spec_PrimeIs.f k n) (prB n) := by
  unfold spec_PrimeIs.f
  simp only [spec_l6In_eq, Option.bind_some]
  by_cases h : 2 ≤ n ∧ n ≤ 5000
  · rw [decide_eq_true h]
    simp only [if_true]
    exact spec_PrimeIs_l0 h.1 h.2 (n - 2).toNat 2 (by omega) (by omega) (by omega) fun y h1 h2 => by omega
  · rw [decide_eq_false h]
    rw [prB_false.2 fun hp => h ⟨hp.1.1, hp.2⟩]
    exact Ev.now _
theorem impl_prime_l0 {n : Int} (h2 : 2 ≤ n) (hn : n ≤ 5000) : ∀ (d : Nat) (x : Int), 2 ≤ x → x ≤ n → n - x ≤ d → (∀ y, 2 ≤ y → y < x → ¬ y ∣ n) → Ev (fun k => impl_prime.l0 k n x) (prB n) := by
  intro d
  induction d with
  | zero =>
    intro x hx hxn hd h
    have := sq_gt hx (show n ≤ x by omega)
    have hb := mul_bd (show 0 ≤ x by omega) (show x ≤ 5000 by omega) (show 0 ≤ x by omega) (show x ≤ 5000 by omega)
    refine Ev.step (f := fun _ => some true) (fun k => ?_) ?_
    · rw [impl_prime.l0, w64 (by omega) (by omega), if_neg (by omega), decide_eq_true (by omega)]
    · rw [prB_true.2 ⟨pr_of_none h2 x (by omega) (by omega) h, hn⟩]; exact Ev.now _
  | succ d ih =>
    intro x hx hxn hd h
    have hb := mul_bd (show 0 ≤ x by omega) (show x ≤ 5000 by omega) (show 0 ≤ x by omega) (show x ≤ 5000 by omega)
    by_cases hle : x * x ≤ n
    · by_cases hdv : x ∣ n
      · have hlt : x < n := by
          have := sq_gt hx (Int.le_refl x); omega
        refine Ev.step (f := fun _ => some false) (fun k => ?_) ?_
        · rw [impl_prime.l0, w64 (by omega) (by omega), if_pos hle, if_neg (by omega), if_pos (Int.tmod_eq_zero_of_dvd hdv)]
        · rw [prB_false.2 fun hp => hp.1.2 x hx hlt hdv]; exact Ev.now _
      · have hlt : x < n := by
          have := sq_gt hx (Int.le_refl x); omega
        refine Ev.step (f := fun k => impl_prime.l0 k n (x + 1)) (fun k => ?_) (ih (x + 1) (by omega) (by omega) (by omega) ?_)
        · rw [impl_prime.l0, w64 (by omega) (by omega), if_pos hle, if_neg (by omega), if_neg (fun e => hdv (Int.dvd_of_tmod_eq_zero e)), w64 (by omega) (by omega)]
        · intro y h1 h2'
          by_cases e : y = x
          · subst e; exact hdv
          · exact h y h1 (by omega)
    · refine Ev.step (f := fun _ => some true) (fun k => ?_) ?_
      · rw [impl_prime.l0, w64 (by omega) (by omega), if_neg hle, decide_eq_true (by omega)]
      · rw [prB_true.2 ⟨pr_of_none h2 x (by omega) (by omega) h, hn⟩]; exact Ev.now _
theorem impl_PrimeIs_ev (n : Int) : Ev (fun k => impl_PrimeIs.f k n) (prB n) := by
  unfold impl_PrimeIs.f
  by_cases h5 : n ≤ 5000
  · simp only [if_pos h5]
    refine Ev.bind (a := prB n) ?_ (Ev.now _)
    unfold impl_prime.f
    by_cases h : 2 ≤ n
    · exact impl_prime_l0 h h5 (n - 2).toNat 2 (by omega) (by omega) (by omega) fun y h1 h2 => by omega
    · refine Ev.step (f := fun _ => some false) (fun k => ?_) ?_
      · rw [impl_prime.l0, w64 (by omega) (by omega), if_neg (by omega), decide_eq_false (by omega)]
      · rw [prB_false.2 fun hp => h hp.1.1]; exact Ev.now _
  · simp only [if_neg h5]
    rw [prB_false.2 fun hp => h5 hp.2]
    exact Ev.now _
theorem spec_l1Mod_eq {n m : Int} (h0 : 0 < m) (h1 : m ≤ 1000000000) : spec_l1Mod.f n m = some (n % m) := by
  unfold spec_l1Mod.f; rw [if_neg (by omega), rest_form h0 h1]
theorem impl_rest_eq {n m : Int} (h0 : 0 < m) (h1 : m ≤ 1000000000) : impl_rest.f n m = some (n % m) := by
  unfold impl_rest.f; rw [if_neg (by omega), rest_form h0 h1]
theorem spec_l3Ok_eq (a b : Int) : spec_l3Ok.f a b = some (numB a && numB b && decide (a ≠ 0) && decide (b ≠ 0)) := by
  unfold spec_l3Ok.f
  rw [spec_l1Number_eq, spec_l1Number_eq, Option.bind_some, Option.bind_some]
  by_cases ha : numB a = true
  · rw [if_pos ha, ha]
    by_cases hb : numB b = true
    · rw [if_pos hb, hb]
      by_cases h0 : a = 0
      · rw [if_pos h0]; simp [h0]
      · rw [if_neg h0]; congr 1
        simp [h0, bne, BEq.beq]
    · rw [if_neg hb]; simp [hb]
  · rw [if_neg ha]; simp [ha]
theorem impl_bothNumbers_eq (a b : Int) : impl_bothNumbers.f a b = some (numB a && numB b && decide (a ≠ 0) && decide (b ≠ 0)) := by
  unfold impl_bothNumbers.f
  by_cases h0 : a = 0
  · rw [if_pos h0]; simp [h0]
  · rw [if_neg h0]
    by_cases h1 : b = 0
    · rw [if_pos h1]; simp [h1]
    · rw [if_neg h1, impl_isNumber_eq, impl_isNumber_eq, Option.bind_some, Option.bind_some]
      by_cases ha : numB a = true
      · rw [if_pos ha]; simp [ha, h0, h1]
      · rw [if_neg ha]; simp [ha]
theorem rd_pre (p : List Int) (a : Int) (l : List Int) : rd (p ++ a :: l) (p.length : Int) = a := by
  unfold rd
  rw [Int.toNat_natCast, List.getD_eq_getElem?_getD, List.getElem?_append_right (Nat.le_refl _)]
  simp
theorem set_pre (p : List Int) (a : Int) (l : List Int) (c : Int) : (p ++ a :: l).set ((p.length : Int)).toNat c = p ++ c :: l := by
  rw [Int.toNat_natCast, List.set_append_right _ _ (Nat.le_refl _)]
  simp
theorem impl_waysModulo_step {a b p m n x y x14 z : Int} (ha : -5000 ≤ a) (ha' : a ≤ 5000) (hb : -5000 ≤ b) (hb' : b ≤ 5000) (hp : 2 ≤ p) (hm0 : 0 < m) (hm : m ≤ 32) (hx : 0 ≤ x) (hx' : x ≤ 32) (hy : 0 ≤ y) (hy' : y ≤ 32) (hz : 0 ≤ z) (hz' : z < m) (hn : 0 ≤ n) (hn' : n ≤ 1000000000) (k : Nat) :
    impl_waysModulo.l2 (k + 1) a b p m n x y m x14 m y m z = impl_waysModulo.l2 k a b p m (n + if W a b p m x y z = true then 1 else 0) x y m x14 m y m (z + 1) := by
  have b1 := mul_bd hz (show z ≤ 32 by omega) hz (show z ≤ 32 by omega)
  have b2 := abs_mul_bd ha ha' (show -32 ≤ x by omega) hx'
  have b3 := abs_mul_bd b2.1 b2.2 (show -32 ≤ x by omega) hx'
  have b4 := abs_mul_bd hb hb' (show -32 ≤ y by omega) hy'
  have b5 := abs_mul_bd b4.1 b4.2 (show -32 ≤ y by omega) hy'
  have we : wrap64 (wrap64 (wrap64 (z * z) - wrap64 (wrap64 (a * x) * x)) - wrap64 (wrap64 (b * y) * y)) = z * z - a * x * x - b * y * y := by
    rw [w64 (x := z * z) (by omega) (by omega), w64 (x := a * x) (by omega) (by omega), w64 (x := a * x * x) (by omega) (by omega), w64 (x := b * y) (by omega) (by omega), w64 (x := b * y * y) (by omega) (by omega), w64 (x := z * z - a * x * x) (by omega) (by omega), w64 (by omega) (by omega)]
  have w1 : wrap64 (z + 1) = z + 1 := w64 (by omega) (by omega)
  have w2 : wrap64 (n + 1) = n + 1 := w64 (by omega) (by omega)
  rw [impl_waysModulo.l2, if_pos hz', if_neg (by omega), we, w1, w2, tm hx, tm hy, tm hz, impl_rest_eq hm0 (by omega)]
  simp only [Option.bind_some]
  unfold W
  by_cases h1 : x % p = 0
  · rw [if_pos h1]
    by_cases h2 : y % p = 0
    · rw [if_pos h2]
      by_cases h3 : z % p = 0
      · rw [if_pos h3, if_neg (by simp [h1, h2, h3]), Int.add_zero]
      · rw [if_neg h3]
        by_cases h4 : (z * z - a * x * x - b * y * y) % m = 0
        · rw [if_pos h4, if_pos (by simp [h3, h4])]
        · rw [if_neg h4, if_neg (by simp [h4]), Int.add_zero]
    · rw [if_neg h2]
      by_cases h4 : (z * z - a * x * x - b * y * y) % m = 0
      · rw [if_pos h4, if_pos (by simp [h2, h4])]
      · rw [if_neg h4, if_neg (by simp [h4]), Int.add_zero]
  · rw [if_neg h1]
    by_cases h4 : (z * z - a * x * x - b * y * y) % m = 0
    · rw [if_pos h4, if_pos (by simp [h1, h4])]
    · rw [if_neg h4, if_neg (by simp [h4]), Int.add_zero]
theorem impl_waysModulo_l2 {a b p m x y x14 r : Int} (ha : -5000 ≤ a) (ha' : a ≤ 5000) (hb : -5000 ≤ b) (hb' : b ≤ 5000) (hp : 2 ≤ p) (hm0 : 0 < m) (hm : m ≤ 32) (hx : 0 ≤ x) (hx' : x ≤ 32) (hy : 0 ≤ y) (hy' : y ≤ 32) :
    ∀ (d : Nat) (z n : Int), 0 ≤ z → z + d = m → 0 ≤ n → n + d ≤ 1000000000 → Ev (fun k => impl_waysModulo.l1 k a b p m (n + cntI (fun z => W a b p m x y z) d z) x m x14 m (wrap64 (y + 1))) r → Ev (fun k => impl_waysModulo.l2 k a b p m n x y m x14 m y m z) r := by
  intro d
  induction d with
  | zero =>
    intro z n hz hd hn hn' h
    refine Ev.step (fun k => ?_) h
    rw [impl_waysModulo.l2, if_neg (by omega), cntI, Int.add_zero]
  | succ d ih =>
    intro z n hz hd hn hn' h
    refine Ev.step (fun k => impl_waysModulo_step ha ha' hb hb' hp hm0 hm hx hx' hy hy' hz (by omega) hn (by omega) k) (ih (z + 1) _ (by omega) (by omega) (by split <;> omega) (by split <;> omega) ?_)
    rw [Int.add_assoc]; exact h
theorem impl_waysModulo_l1 {a b p m x r : Int} (ha : -5000 ≤ a) (ha' : a ≤ 5000) (hb : -5000 ≤ b) (hb' : b ≤ 5000) (hp : 2 ≤ p) (hm0 : 0 < m) (hm : m ≤ 32) (hx : 0 ≤ x) (hx' : x ≤ 32) :
    ∀ (d : Nat) (y n : Int), 0 ≤ y → y + d = m → 0 ≤ n → n + 32 * d ≤ 1000000 → Ev (fun k => impl_waysModulo.l0 k a b p m (n + sumI (fun y => cntI (fun z => W a b p m x y z) m.toNat 0) d y) m (wrap64 (x + 1))) r → Ev (fun k => impl_waysModulo.l1 k a b p m n x m x m y) r := by
  intro d
  induction d with
  | zero =>
    intro y n hy hd hn hn' h
    refine Ev.step (fun k => ?_) h
    rw [impl_waysModulo.l1, if_neg (by omega), sumI, Int.add_zero]
  | succ d ih =>
    intro y n hy hd hn hn' h
    have hc := cntI_bd (fun z => W a b p m x y z) m.toNat 0
    refine Ev.step (f := fun k => impl_waysModulo.l2 k a b p m n x y m x m y m 0) (fun k => by rw [impl_waysModulo.l1, if_pos (by omega)]) ?_
    refine impl_waysModulo_l2 ha ha' hb hb' hp hm0 hm hx hx' hy (by omega) m.toNat 0 n (by omega) (by omega) hn (by omega) ?_
    rw [w64 (x := y + 1) (by omega) (by omega)]
    refine ih (y + 1) _ (by omega) (by omega) (by omega) (by omega) ?_
    rw [Int.add_assoc]; exact h
theorem impl_waysModulo_l0 {a b p m : Int} (ha : -5000 ≤ a) (ha' : a ≤ 5000) (hb : -5000 ≤ b) (hb' : b ≤ 5000) (hp : 2 ≤ p) (hm0 : 0 < m) (hm : m ≤ 32) :
    ∀ (d : Nat) (x n : Int), 0 ≤ x → x + d = m → 0 ≤ n → n + 1024 * d ≤ 100000 → Ev (fun k => impl_waysModulo.l0 k a b p m n m x) (n + sumI (fun x => sumI (fun y => cntI (fun z => W a b p m x y z) m.toNat 0) m.toNat 0) d x) := by
  intro d
  induction d with
  | zero =>
    intro x n hx hd hn hn'
    refine Ev.step (f := fun _ => some n) (fun k => ?_) ?_
    · rw [impl_waysModulo.l0, if_neg (by omega)]
    · rw [sumI, Int.add_zero]; exact Ev.now _
  | succ d ih =>
    intro x n hx hd hn hn'
    have hc := sumI_bd (F := fun y => cntI (fun z => W a b p m x y z) m.toNat 0) (B := 32) (fun y => by have := cntI_bd (fun z => W a b p m x y z) m.toNat 0; omega) m.toNat 0
    refine Ev.step (f := fun k => impl_waysModulo.l1 k a b p m n x m x m 0) (fun k => by rw [impl_waysModulo.l0, if_pos (by omega)]) ?_
    refine impl_waysModulo_l1 ha ha' hb hb' hp hm0 hm hx (by omega) m.toNat 0 n (by omega) (by omega) hn (by omega) ?_
    rw [w64 (x := x + 1) (by omega) (by omega)]
    have := ih (x + 1) (n + sumI (fun y => cntI (fun z => W a b p m x y z) m.toNat 0) m.toNat 0) (by omega) (by omega) (by omega) (by omega)
    rw [Int.add_assoc] at this
    exact this
theorem impl_waysModulo_ev {a b p m : Int} (ha : -5000 ≤ a) (ha' : a ≤ 5000) (hb : -5000 ≤ b) (hb' : b ≤ 5000) (hp : 2 ≤ p) (hm0 : 0 < m) (hm : m ≤ 32) : Ev (fun k => impl_waysModulo.f k a b p m) (cways a b p m) := by
  have := impl_waysModulo_l0 ha ha' hb hb' hp hm0 hm m.toNat 0 0 (by omega) (by omega) (by omega) (by omega)
  rw [Int.zero_add] at this
  exact this
theorem impl_SymbolWays_ev (a b p : Int) : Ev (fun k => impl_SymbolWays.f k a b p) (waysOf a b p) := by
  unfold impl_SymbolWays.f waysOf
  simp only [impl_bothNumbers_eq, Option.bind_some]
  by_cases h : (numB a && numB b && decide (a ≠ 0) && decide (b ≠ 0)) = true
  · simp only [if_pos h]
    simp only [Bool.and_eq_true, decide_eq_true_eq] at h
    refine Ev.bind (impl_PrimeIs_ev p) ?_
    by_cases hp : prB p = true
    · simp only [if_pos hp]
      have ha := numB_true.1 h.1.1.1
      have hb := numB_true.1 h.1.1.2
      have hpp := prB_true.1 hp
      have h2 := hpp.1.1
      by_cases h31 : p > 31
      · simp only [if_pos h31]; rw [if_neg (by omega)]; exact Ev.now _
      · simp only [if_neg h31]; rw [if_pos ⟨h.1.2, h.2, h.1.1.1, h.1.1.2, hp, by omega⟩]
        exact Ev.bind (impl_waysModulo_ev ha.1 ha.2 hb.1 hb.2 h2 (by omega) (by omega)) (Ev.now _)
    · simp only [if_neg hp]; rw [if_neg (fun h => hp h.2.2.2.2.1)]; exact Ev.now _
  · simp only [if_neg h]
    rw [if_neg (fun g => h (by simp [g.1, g.2.1, g.2.2.1, g.2.2.2.1]))]; exact Ev.now _
theorem swap_mod {a b m x y z : Int} : (a * x * x + b * y * y - z * z) % m = 0 ↔ (z * z - a * x * x - b * y * y) % m = 0 := by
  have e : a * x * x + b * y * y - z * z = -(z * z - a * x * x - b * y * y) := by omega
  rw [e]
  constructor
  · intro h; exact Int.emod_eq_zero_of_dvd (Int.dvd_neg.1 (Int.dvd_of_emod_eq_zero h))
  · intro h; exact Int.emod_eq_zero_of_dvd (Int.dvd_neg.2 (Int.dvd_of_emod_eq_zero h))
theorem spec_SymbolWays_step {a b p n x y z : Int} (ha : -5000 ≤ a) (ha' : a ≤ 5000) (hb : -5000 ≤ b) (hb' : b ≤ 5000) (hp : 2 ≤ p) (hm : p ≤ 32) (hx : 0 ≤ x) (hx' : x < p) (hy : 0 ≤ y) (hy' : y < p) (hz : 0 ≤ z) (hz' : z < p) (hn : 0 ≤ n) (hn' : n ≤ 1000000000) (k : Nat) :
    spec_SymbolWays.l2 (k + 1) a b p n x y z = spec_SymbolWays.l2 k a b p (n + if W a b p p x y z = true then 1 else 0) x y (z + 1) := by
  have b1 := mul_bd hz (show z ≤ 32 by omega) hz (show z ≤ 32 by omega)
  have b2 := abs_mul_bd ha ha' (show -32 ≤ x by omega) (show x ≤ 32 by omega)
  have b3 := abs_mul_bd b2.1 b2.2 (show -32 ≤ x by omega) (show x ≤ 32 by omega)
  have b4 := abs_mul_bd hb hb' (show -32 ≤ y by omega) (show y ≤ 32 by omega)
  have b5 := abs_mul_bd b4.1 b4.2 (show -32 ≤ y by omega) (show y ≤ 32 by omega)
  have we : wrap64 (wrap64 (wrap64 (wrap64 (a * x) * x) + wrap64 (wrap64 (b * y) * y)) - wrap64 (z * z)) = a * x * x + b * y * y - z * z := by
    rw [w64 (x := z * z) (by omega) (by omega), w64 (x := a * x) (by omega) (by omega), w64 (x := a * x * x) (by omega) (by omega), w64 (x := b * y) (by omega) (by omega), w64 (x := b * y * y) (by omega) (by omega), w64 (x := a * x * x + b * y * y) (by omega) (by omega), w64 (by omega) (by omega)]
  have w1 : wrap64 (z + 1) = z + 1 := w64 (by omega) (by omega)
  have w2 : wrap64 (n + 1) = n + 1 := w64 (by omega) (by omega)
  have w3 : wrap64 (wrap64 (x + y) + z) = x + y + z := by rw [w64 (x := x + y) (by omega) (by omega), w64 (by omega) (by omega)]
  rw [spec_SymbolWays.l2, if_pos hz', we, w1, w2, w3, spec_l1Mod_eq (by omega) (by omega)]
  simp only [Option.bind_some]
  unfold W
  rw [Int.emod_eq_of_lt hx hx', Int.emod_eq_of_lt hy hy', Int.emod_eq_of_lt hz hz']
  by_cases h0 : x + y + z > 0
  · rw [if_pos h0]
    have h3 : (decide (x ≠ 0) || decide (y ≠ 0) || decide (z ≠ 0)) = true := by
      simp only [Bool.or_eq_true, decide_eq_true_eq]; omega
    rw [h3, Bool.true_and]
    by_cases h4 : (a * x * x + b * y * y - z * z) % p = 0
    · rw [if_pos h4, if_pos (decide_eq_true (swap_mod.1 h4))]
    · rw [if_neg h4, if_neg (by rw [decide_eq_true_eq]; exact fun h => h4 (swap_mod.2 h)), Int.add_zero]
  · rw [if_neg h0]
    have h3 : (decide (x ≠ 0) || decide (y ≠ 0) || decide (z ≠ 0)) = false := by
      have e1 : x = 0 := by omega
      have e2 : y = 0 := by omega
      have e3 : z = 0 := by omega
      simp [e1, e2, e3]
    rw [h3, Bool.false_and, if_neg (by simp), Int.add_zero]
theorem spec_SymbolWays_l2 {a b p x y r : Int} (ha : -5000 ≤ a) (ha' : a ≤ 5000) (hb : -5000 ≤ b) (hb' : b ≤ 5000) (hp : 2 ≤ p) (hm : p ≤ 32) (hx : 0 ≤ x) (hx' : x < p) (hy : 0 ≤ y) (hy' : y < p) :
    ∀ (d : Nat) (z n : Int), 0 ≤ z → z + d = p → 0 ≤ n → n + d ≤ 1000000000 → Ev (fun k => spec_SymbolWays.l1 k a b p (n + cntI (fun z => W a b p p x y z) d z) x (wrap64 (y + 1))) r → Ev (fun k => spec_SymbolWays.l2 k a b p n x y z) r := by
  intro d
  induction d with
  | zero =>
    intro z n hz hd hn hn' h
    refine Ev.step (fun k => ?_) h
    rw [spec_SymbolWays.l2, if_neg (by omega), cntI, Int.add_zero]
  | succ d ih =>
    intro z n hz hd hn hn' h
    refine Ev.step (fun k => spec_SymbolWays_step ha ha' hb hb' hp hm hx hx' hy hy' hz (by omega) hn (by omega) k) (ih (z + 1) _ (by omega) (by omega) (by split <;> omega) (by split <;> omega) ?_)
    rw [Int.add_assoc]; exact h
theorem spec_SymbolWays_l1 {a b p x r : Int} (ha : -5000 ≤ a) (ha' : a ≤ 5000) (hb : -5000 ≤ b) (hb' : b ≤ 5000) (hp : 2 ≤ p) (hm : p ≤ 32) (hx : 0 ≤ x) (hx' : x < p) :
    ∀ (d : Nat) (y n : Int), 0 ≤ y → y + d = p → 0 ≤ n → n + 32 * d ≤ 1000000 → Ev (fun k => spec_SymbolWays.l0 k a b p (n + sumI (fun y => cntI (fun z => W a b p p x y z) p.toNat 0) d y) (wrap64 (x + 1))) r → Ev (fun k => spec_SymbolWays.l1 k a b p n x y) r := by
  intro d
  induction d with
  | zero =>
    intro y n hy hd hn hn' h
    refine Ev.step (fun k => ?_) h
    rw [spec_SymbolWays.l1, if_neg (by omega), sumI, Int.add_zero]
  | succ d ih =>
    intro y n hy hd hn hn' h
    have hc := cntI_bd (fun z => W a b p p x y z) p.toNat 0
    refine Ev.step (f := fun k => spec_SymbolWays.l2 k a b p n x y 0) (fun k => by rw [spec_SymbolWays.l1, if_pos (by omega)]) ?_
    refine spec_SymbolWays_l2 ha ha' hb hb' hp hm hx hx' hy (by omega) p.toNat 0 n (by omega) (by omega) hn (by omega) ?_
    rw [w64 (x := y + 1) (by omega) (by omega)]
    refine ih (y + 1) _ (by omega) (by omega) (by omega) (by omega) ?_
    rw [Int.add_assoc]; exact h
theorem spec_SymbolWays_l0 {a b p : Int} (ha : -5000 ≤ a) (ha' : a ≤ 5000) (hb : -5000 ≤ b) (hb' : b ≤ 5000) (hp : 2 ≤ p) (hm : p ≤ 32) :
    ∀ (d : Nat) (x n : Int), 0 ≤ x → x + d = p → 0 ≤ n → n + 1024 * d ≤ 100000 → Ev (fun k => spec_SymbolWays.l0 k a b p n x) (n + sumI (fun x => sumI (fun y => cntI (fun z => W a b p p x y z) p.toNat 0) p.toNat 0) d x) := by
  intro d
  induction d with
  | zero =>
    intro x n hx hd hn hn'
    refine Ev.step (f := fun _ => some n) (fun k => ?_) ?_
    · rw [spec_SymbolWays.l0, if_neg (by omega)]
    · rw [sumI, Int.add_zero]; exact Ev.now _
  | succ d ih =>
    intro x n hx hd hn hn'
    have hc := sumI_bd (F := fun y => cntI (fun z => W a b p p x y z) p.toNat 0) (B := 32) (fun y => by have := cntI_bd (fun z => W a b p p x y z) p.toNat 0; omega) p.toNat 0
    refine Ev.step (f := fun k => spec_SymbolWays.l1 k a b p n x 0) (fun k => by rw [spec_SymbolWays.l0, if_pos (by omega)]) ?_
    refine spec_SymbolWays_l1 ha ha' hb hb' hp hm hx (by omega) p.toNat 0 n (by omega) (by omega) hn (by omega) ?_
    rw [w64 (x := x + 1) (by omega) (by omega)]
    have := ih (x + 1) (n + sumI (fun y => cntI (fun z => W a b p p x y z) p.toNat 0) p.toNat 0) (by omega) (by omega) (by omega) (by omega)
    rw [Int.add_assoc] at this
    exact this
theorem spec_SymbolWays_no (a b p : Int) : Ev (fun k => spec_SymbolWays.j0 k a b p true) (-1) := by
  refine Ev.step (f := fun _ => some (-1)) (fun k => ?_) (Ev.now _)
  rw [spec_SymbolWays.j0, if_pos rfl]
theorem spec_SymbolWays_ev (a b p : Int) : Ev (fun k => spec_SymbolWays.f k a b p) (waysOf a b p) := by
  unfold spec_SymbolWays.f waysOf
  simp only [spec_l3Ok_eq, Option.bind_some]
  by_cases h : (numB a && numB b && decide (a ≠ 0) && decide (b ≠ 0)) = true
  · simp only [if_pos h]
    simp only [Bool.and_eq_true, decide_eq_true_eq] at h
    refine Ev.bind (spec_PrimeIs_ev p) ?_
    by_cases hp : prB p = true
    · simp only [if_pos hp]
      have ha := numB_true.1 h.1.1.1
      have hb := numB_true.1 h.1.1.2
      have hpp := prB_true.1 hp
      have h2 := hpp.1.1
      by_cases h31 : p > 31
      · rw [decide_eq_true h31, if_neg (by omega)]; exact spec_SymbolWays_no ..
      · rw [decide_eq_false h31, if_pos ⟨h.1.2, h.2, h.1.1.1, h.1.1.2, hp, by omega⟩]
        refine Ev.step (fun k => by rw [spec_SymbolWays.j0, if_neg (by simp)]) ?_
        have := spec_SymbolWays_l0 ha.1 ha.2 hb.1 hb.2 h2 (by omega) p.toNat 0 0 (by omega) (by omega) (by omega) (by omega)
        rw [Int.zero_add] at this
        exact this
    · simp only [if_neg hp]; rw [if_neg (fun h => hp h.2.2.2.2.1)]; exact spec_SymbolWays_no ..
  · simp only [if_neg h]
    rw [if_neg (fun g => h (by simp [g.1, g.2.1, g.2.2.1, g.2.2.2.1]))]; exact spec_SymbolWays_no ..
theorem FnExactSymbolWays : laws_FnExactSymbolWays.Pure := by
  intro a b p _ _ _
  refine Ev.rounds ?_
  unfold laws_FnExactSymbolWays.f
  refine Ev.bind (spec_SymbolWays_ev a b p) (Ev.bind (impl_SymbolWays_ev a b p) ?_)
  rw [if_pos rfl]; exact Ev.now _

end Go.Proofs.Ytmepbogcfkecnaa.Pure
