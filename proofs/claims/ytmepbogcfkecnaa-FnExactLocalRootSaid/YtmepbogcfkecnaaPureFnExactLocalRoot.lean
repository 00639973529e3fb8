/- The program's LocalRoot and the reference's answer alike at every three integers.
No condition beyond the given statement. The printed functions are tied to plain arithmetic one by one; the law follows at the end. -/
import Derived.Test.YtmepbogcfkecnaaPFnExactLocalRootx2
import Derived.Test.YtmepbogcfkecnaaM13
set_option linter.unusedVariables false
set_option linter.unusedSimpArgs false
namespace Go.Proofs.Ytmepbogcfkecnaa.Pure
open Go.RowKit Go.Proofs.Ytmepbogcfkecnaa.PFnExactLocalRoot Go.Proofs.YtmepbogcfkecnaaW.PrintWords Go.Proofs.YtmepbogcfkecnaaW.PrintLast Go.Proofs.YtmepbogcfkecnaaW.PrintMore Go.Proofs.LG

theorem spec_l6In_eq (a b c : Int) : spec_l6In.f a b c = some (decide (b ≤ a ∧ a ≤ c)) := by
  unfold spec_l6In.f
  by_cases h : a ≥ b
  · rw [if_pos h]; congr 1; rw [decide_eq_decide]; omega
  · rw [if_neg h]; congr 1; symm; rw [decide_eq_false_iff_not]; omega
theorem spec_l1Number_eq (a : Int) : spec_l1Number.f a = some (numB a) := by
  unfold spec_l1Number.f; rw [spec_l6In_eq]; rfl
theorem impl_isNumber_eq (a : Int) : impl_isNumber.f a = some (numB a) := by
  unfold impl_isNumber.f numB
  by_cases h : a ≥ -5000
  · rw [if_pos h]; congr 1; rw [decide_eq_decide]; omega
  · rw [if_neg h]; congr 1; symm; rw [decide_eq_false_iff_not]; omega
theorem spec_PrimeIs_l0 {n : Int} (h2 : 2 ≤ n) (hn : n ≤ 5000) : ∀ (d : Nat) (x : Int), 2 ≤ x → x ≤ n → n - x ≤ d → (∀ y, 2 ≤ y → y < x → ¬ y ∣ n) → Ev (fun k => spec_PrimeIs.l0 k n x) (prB n) := by
  intro d
  induction d with
  | zero =>
    intro x hx hxn hd h
    have := sq_gt hx (show n ≤ x by omega)
    have hb := mul_bd (show 0 ≤ x by omega) (show x ≤ 5000 by omega) (show 0 ≤ x by omega) (show x ≤ 5000 by omega)
    refine Ev.step (f := fun _ => some true) (fun k => ?_) ?_
    · rw [spec_PrimeIs.l0, w64 (by omega) (by omega), if_neg (by omega)]
    · rw [prB_true.2 ⟨pr_of_none h2 x (by omega) (by omega) h, hn⟩]; exact Ev.now _
  | succ d ih =>
    intro x hx hxn hd h
    have hb := mul_bd (show 0 ≤ x by omega) (show x ≤ 5000 by omega) (show 0 ≤ x by omega) (show x ≤ 5000 by omega)
    by_cases hle : x * x ≤ n
    · by_cases hdv : x ∣ n
      · have hlt : x < n := by
          have := sq_gt hx (Int.le_refl x); omega
        refine Ev.step (f := fun _ => some false) (fun k => ?_) ?_
        · rw [spec_PrimeIs.l0, w64 (by omega) (by omega), if_pos hle, if_neg (by omega), if_pos (Int.tmod_eq_zero_of_dvd hdv)]
        · rw [prB_false.2 fun hp => hp.1.2 x hx hlt hdv]; exact Ev.now _
      · have hlt : x < n := by
          have := sq_gt hx (Int.le_refl x); omega
        refine Ev.step (f := fun k => spec_PrimeIs.l0 k n (x + 1)) (fun k => ?_) (ih (x + 1) (by omega) (by omega) (by omega) ?_)
        · rw [spec_PrimeIs.l0, w64 (by omega) (by omega), if_pos hle, if_neg (by omega), if_neg (fun e => hdv (Int.dvd_of_tmod_eq_zero e)), w64 (by omega) (by omega)]
        · intro y h1 h2'
          by_cases e : y = x
          · subst e; exact hdv
          · exact h y h1 (by omega)
    · refine Ev.step (f := fun _ => some true) (fun k => ?_) ?_
      · rw [spec_PrimeIs.l0, w64 (by omega) (by omega), if_neg hle]
      · rw [prB_true.2 ⟨pr_of_none h2 x (by omega) (by omega) h, hn⟩]; exact Ev.now _
theorem spec_PrimeIs_ev (n : Int) : Ev (fun k => spec_PrimeIs.f k n) (prB n) := by
  unfold spec_PrimeIs.f
  simp only [spec_l6In_eq, Option.bind_some]
  by_cases h : 2 ≤ n ∧ n ≤ 5000
  · rw [decide_eq_true h]
    simp only [if_true]
    exact spec_PrimeIs_l0 h.1 h.2 (n - 2).toNat 2 (by omega) (by omega) (by omega) fun y h1 h2 => by omega
  · rw [decide_eq_false h]
    rw [prB_false.2 fun hp => h ⟨hp.1.1, hp.2⟩]
    exact Ev.now _
theorem impl_prime_l0 {n : Int} (h2 : 2 ≤ n) (hn : n ≤ 5000) : ∀ (d : Nat) (x : Int), 2 ≤ x → x ≤ n → n - x ≤ d → (∀ y, 2 ≤ y → y < x → ¬ y ∣ n) → Ev (fun k => impl_prime.l0 k n x) (prB n) := by
  intro d
  induction d with
  | zero =>
    intro x hx hxn hd h
    have := sq_gt hx (show n ≤ x by omega)
    have hb := mul_bd (show 0 ≤ x by omega) (show x ≤ 5000 by omega) (show 0 ≤ x by omega) (show x ≤ 5000 by omega)
    refine Ev.step (f := fun _ => some true) (fun k => ?_) ?_
    · rw [impl_prime.l0, w64 (by omega) (by omega), if_neg (by omega), decide_eq_true (by omega)]
    · rw [prB_true.2 ⟨pr_of_none h2 x (by omega) (by omega) h, hn⟩]; exact Ev.now _
  | succ d ih =>
    intro x hx hxn hd h
    have hb := mul_bd (show 0 ≤ x by omega) (show x ≤ 5000 by omega) (show 0 ≤ x by omega) (show x ≤ 5000 by omega)
    by_cases hle : x * x ≤ n
    · by_cases hdv : x ∣ n
      · have hlt : x < n := by
          have := sq_gt hx (Int.le_refl x); omega
        refine Ev.step (f := fun _ => some false) (fun k => ?_) ?_
        · rw [impl_prime.l0, w64 (by omega) (by omega), if_pos hle, if_neg (by omega), if_pos (Int.tmod_eq_zero_of_dvd hdv)]
        · rw [prB_false.2 fun hp => hp.1.2 x hx hlt hdv]; exact Ev.now _
      · have hlt : x < n := by
          have := sq_gt hx (Int.le_refl x); omega
        refine Ev.step (f := fun k => impl_prime.l0 k n (x + 1)) (fun k => ?_) (ih (x + 1) (by omega) (by omega) (by omega) ?_)
        · rw [impl_prime.l0, w64 (by omega) (by omega), if_pos hle, if_neg (by omega), if_neg (fun e => hdv (Int.dvd_of_tmod_eq_zero e)), w64 (by omega) (by omega)]
        · intro y h1 h2'
          by_cases e : y = x
          · subst e; exact hdv
          · exact h y h1 (by omega)
    · refine Ev.step (f := fun _ => some true) (fun k => ?_) ?_
      · rw [impl_prime.l0, w64 (by omega) (by omega), if_neg hle, decide_eq_true (by omega)]
      · rw [prB_true.2 ⟨pr_of_none h2 x (by omega) (by omega) h, hn⟩]; exact Ev.now _
theorem impl_PrimeIs_ev (n : Int) : Ev (fun k => impl_PrimeIs.f k n) (prB n) := by
  unfold impl_PrimeIs.f
  by_cases h5 : n ≤ 5000
  · simp only [if_pos h5]
    refine Ev.bind (a := prB n) ?_ (Ev.now _)
    unfold impl_prime.f
    by_cases h : 2 ≤ n
    · exact impl_prime_l0 h h5 (n - 2).toNat 2 (by omega) (by omega) (by omega) fun y h1 h2 => by omega
    · refine Ev.step (f := fun _ => some false) (fun k => ?_) ?_
      · rw [impl_prime.l0, w64 (by omega) (by omega), if_neg (by omega), decide_eq_false (by omega)]
      · rw [prB_false.2 fun hp => h hp.1.1]; exact Ev.now _
  · simp only [if_neg h5]
    rw [prB_false.2 fun hp => h5 hp.2]
    exact Ev.now _
theorem spec_l1Mod_eq {n m : Int} (h0 : 0 < m) (h1 : m ≤ 1000000000) : spec_l1Mod.f n m = some (n % m) := by
  unfold spec_l1Mod.f; rw [if_neg (by omega), rest_form h0 h1]
theorem impl_rest_eq {n m : Int} (h0 : 0 < m) (h1 : m ≤ 1000000000) : impl_rest.f n m = some (n % m) := by
  unfold impl_rest.f; rw [if_neg (by omega), rest_form h0 h1]
theorem impl_rootMod_l0 {n m : Int} (hm : 1 ≤ m) (hm' : m ≤ 5000) : ∀ (d : Nat) (x : Int), 0 ≤ x → x + d = m → Ev (fun k => impl_rootMod.l0 k n m m x) (two (srch (fun x => decide (x * x % m = n % m)) d x)) := by
  intro d
  induction d with
  | zero =>
    intro x h0 hd
    refine Ev.step (f := fun _ => some (0, false)) (fun k => ?_) (Ev.now _)
    rw [impl_rootMod.l0, if_neg (by omega)]
  | succ d ih =>
    intro x h0 hd
    have hb := mul_bd h0 (show x ≤ 5000 by omega) h0 (show x ≤ 5000 by omega)
    rw [srch]
    by_cases h : x * x % m = n % m
    · rw [if_pos (decide_eq_true h)]
      refine Ev.step (f := fun _ => some (x, true)) (fun k => ?_) (Ev.now _)
      rw [impl_rootMod.l0, if_pos (by omega), if_neg (by omega), impl_rest_eq (by omega) (by omega), Option.bind_some, w64 (by omega) (by omega), tm hb.1, if_pos h]
    · rw [if_neg (by simpa using h)]
      refine Ev.step (fun k => ?_) (ih (x + 1) (by omega) (by omega))
      rw [impl_rootMod.l0, if_pos (by omega), if_neg (by omega), impl_rest_eq (by omega) (by omega), Option.bind_some, w64 (x := x * x) (by omega) (by omega), tm hb.1, if_neg h, w64 (by omega) (by omega)]
theorem impl_rootMod_ev {n m : Int} (hm : 1 ≤ m) (hm' : m ≤ 5000) : Ev (fun k => impl_rootMod.f k n m) (two (rootS n m)) :=
  impl_rootMod_l0 hm hm' _ 0 (by omega) (by omega)
theorem rd_pre (p : List Int) (a : Int) (l : List Int) : rd (p ++ a :: l) (p.length : Int) = a := by
  unfold rd
  rw [Int.toNat_natCast, List.getD_eq_getElem?_getD, List.getElem?_append_right (Nat.le_refl _)]
  simp
theorem set_pre (p : List Int) (a : Int) (l : List Int) (c : Int) : (p ++ a :: l).set ((p.length : Int)).toNat c = p ++ c :: l := by
  rw [Int.toNat_natCast, List.set_append_right _ _ (Nat.le_refl _)]
  simp
theorem impl_LocalRoot_l0 {n p c : Int} (hn : numB n = true) (hp : prB p = true) (hc : 1 ≤ c) : ∀ (d i : Nat), i + d = 13 → (i : Int) ≤ c → p ^ i ≤ 5000 → Ev (fun k => impl_LocalRoot.l0 k n p (p ^ i) c i) (lrootOf n p c) := by
  have hpp := prB_true.1 hp
  have h2 := hpp.1.1
  intro d
  induction d with
  | zero =>
    intro i hd hi h5
    have h1 := pow_ge_two h2 i
    have h3 : (2 : Int) ^ i = 8192 := by have : i = 13 := by omega
                                         subst this; decide
    omega
  | succ d ih =>
    intro i hd hi h5
    have hpos := pow_pos' (show 1 ≤ p by omega) i
    have m := mul_bd (show 0 ≤ p ^ i by omega) h5 (show 0 ≤ p by omega) hpp.2
    have hsucc : p ^ (i + 1) = p ^ i * p := Int.pow_succ ..
    by_cases hlt : (i : Int) < c
    · by_cases hbig : p ^ i * p > 5000
      · have : lrootOf n p c = (0, false) := by
          unfold lrootOf
          rw [if_neg (fun g => ?_)]
          have := pow_mono (show 1 ≤ p by omega) (show i + 1 ≤ c.toNat by omega)
          omega
        rw [this]
        refine Ev.step (f := fun _ => some (0, false)) (fun k => ?_) (Ev.now _)
        rw [impl_LocalRoot.l0, if_pos hlt, w64 (x := p ^ i * p) (by omega) (by omega), if_pos hbig]
      · refine Ev.step (fun k => ?_) (ih (i + 1) (by omega) (by omega) (by omega))
        rw [impl_LocalRoot.l0, if_pos hlt, w64 (x := p ^ i * p) (by omega) (by omega), if_neg hbig, w64 (x := (i : Int) + 1) (by omega) (by omega), ← hsucc]
        rfl
    · have e : c.toNat = i := by omega
      have : lrootOf n p c = two (rootS n (p ^ i)) := by
        unfold lrootOf
        rw [if_pos ⟨hn, hp, by omega, by omega, by rw [e]; exact h5⟩, e]
      rw [this]
      refine Ev.step (f := fun k => (impl_rootMod.f k n (p ^ i)).bind fun bt => some (bt.1, bt.2)) (fun k => ?_) (Ev.bind (impl_rootMod_ev (by omega) h5) (Ev.now _))
      rw [impl_LocalRoot.l0, if_neg hlt]
theorem impl_LocalRoot_no (n p c : Int) : Ev (fun k => impl_LocalRoot.j0 k n p c true) (0, false) := by
  refine Ev.step (f := fun _ => some (0, false)) (fun k => ?_) (Ev.now _)
  rw [impl_LocalRoot.j0, if_pos rfl]
theorem impl_LocalRoot_ev (n p c : Int) : Ev (fun k => impl_LocalRoot.f k n p c) (lrootOf n p c) := by
  unfold impl_LocalRoot.f
  simp only [impl_isNumber_eq, Option.bind_some]
  by_cases h : numB n = true
  · simp only [if_pos h]
    refine Ev.bind (impl_PrimeIs_ev p) ?_
    by_cases hp : prB p = true
    · simp only [if_pos hp]
      by_cases hc : c < 1
      · have : lrootOf n p c = (0, false) := by unfold lrootOf; rw [if_neg (by omega)]
        rw [decide_eq_true hc, this]; exact impl_LocalRoot_no ..
      · rw [decide_eq_false hc]
        refine Ev.step (fun k => by rw [impl_LocalRoot.j0, if_neg (by simp)]) ?_
        have := impl_LocalRoot_l0 h hp (show 1 ≤ c by omega) 13 0 (by omega) (by omega) (by rw [Int.pow_zero]; omega)
        rw [Int.pow_zero] at this
        exact this
    · have : lrootOf n p c = (0, false) := by unfold lrootOf; rw [if_neg (fun g => hp g.2.1)]
      simp only [if_neg hp]; rw [this]; exact impl_LocalRoot_no ..
  · have : lrootOf n p c = (0, false) := by unfold lrootOf; rw [if_neg (fun g => h g.1)]
    simp only [if_neg h]; rw [this]; exact impl_LocalRoot_no ..
theorem rd_at (p : List Int) (a : Int) (l : List Int) : rd (p ++ a :: l) (p.length : Int) = a := by
  unfold rd
  rw [Int.toNat_natCast, List.getD_eq_getElem?_getD, List.getElem?_append_right (Nat.le_refl _)]
  simp
theorem spec_l2Lift_l2 {n p K P i t : Int} {r : List Int} (hn : -5000 ≤ n) (hn' : n ≤ 5000) (hp : 2 ≤ p) (hP : 1 ≤ P) (hM : P * p ≤ 5000) (hP' : P ≤ 5000) (ht : 0 ≤ t) (ht' : t < p) :
    ∀ (l pre acc : List Int), (∀ x ∈ pre ++ l, 0 ≤ x ∧ x < P) → acc.length + l.length ≤ 1000000 → pre.length + l.length ≤ 1000000 → Ev (fun k => spec_l2Lift.l1 k n p K (pre ++ l) P i (acc ++ pickL n (P * p) (t * P) l) (wrap64 (t + 1))) r → Ev (fun k => spec_l2Lift.l2 k n p K (pre ++ l) P i acc t pre.length) r := by
  have m1 := mul_bd ht (show t ≤ p - 1 by omega) (show 0 ≤ P by omega) (Int.le_refl P)
  have e1 : (p - 1) * P = P * p - P := by grind
  intro l
  induction l with
  | nil =>
    intro pre acc hb ha hpl h
    refine Ev.step (fun k => ?_) h
    rw [spec_l2Lift.l2, if_neg (by simp), pickL, List.append_nil acc]
  | cons x l ih =>
    intro pre acc hb ha hpl h
    simp only [List.length_cons] at ha hpl
    have hx := hb x (by simp)
    have hrd : rd (pre ++ x :: l) (pre.length : Int) = x := rd_at ..
    have m2 := mul_bd (show 0 ≤ x + t * P by omega) (show x + t * P ≤ 5000 by omega) (show 0 ≤ x + t * P by omega) (show x + t * P ≤ 5000 by omega)
    have hpos : 0 < P * p := Int.mul_pos (by omega) (by omega)
    have hb' : ∀ y ∈ (pre ++ [x]) ++ l, 0 ≤ y ∧ y < P := fun y hy => hb y (by simpa using hy)
    have e2 : pre ++ x :: l = (pre ++ [x]) ++ l := by simp
    have wx : wrap64 (rd (pre ++ x :: l) (pre.length : Int) + wrap64 (t * P)) = x + t * P := by
      rw [hrd, w64 (x := t * P) (by omega) (by omega), w64 (by omega) (by omega)]
    by_cases hq : ((x + t * P) * (x + t * P) - n) % (P * p) = 0
    · have := ih (pre ++ [x]) (acc ++ [x + t * P]) hb' (by simp; omega) (by simp; omega) (by
        rw [pickL, if_pos hq] at h
        rw [← e2, List.append_assoc]; exact h)
      rw [List.length_append, ← e2] at this
      refine Ev.step (fun k => ?_) this
      rw [spec_l2Lift.l2, if_pos (by simp; omega), if_pos (by omega), wx, w64 (x := (x + t * P) * (x + t * P)) (by omega) (by omega), w64 (x := (x + t * P) * (x + t * P) - n) (by omega) (by omega), w64 (x := P * p) (by omega) (by omega), spec_l1Mod_eq hpos (by omega)]
      simp only [Option.bind_some]
      rw [if_pos hq, if_pos (by omega), w64 (x := (pre.length : Int) + 1) (by omega) (by omega)]
      rfl
    · have := ih (pre ++ [x]) acc hb' (by omega) (by simp; omega) (by
        rw [pickL, if_neg hq] at h
        rw [← e2]; exact h)
      rw [List.length_append, ← e2] at this
      refine Ev.step (fun k => ?_) this
      rw [spec_l2Lift.l2, if_pos (by simp; omega), if_pos (by omega), wx, w64 (x := (x + t * P) * (x + t * P)) (by omega) (by omega), w64 (x := (x + t * P) * (x + t * P) - n) (by omega) (by omega), w64 (x := P * p) (by omega) (by omega), spec_l1Mod_eq hpos (by omega)]
      simp only [Option.bind_some]
      rw [if_neg hq, w64 (x := (pre.length : Int) + 1) (by omega) (by omega)]
      rfl
theorem spec_l2Lift_l1 {n p K P i : Int} {r roots : List Int} (hn : -5000 ≤ n) (hn' : n ≤ 5000) (hp : 2 ≤ p) (hP : 1 ≤ P) (hM : P * p ≤ 5000) (hP' : P ≤ 5000) (hr : ∀ x ∈ roots, 0 ≤ x ∧ x < P) (hl : roots.length ≤ 5000) :
    ∀ (d : Nat) (t : Int) (acc : List Int), 0 ≤ t → t + d = p → acc.length + d * roots.length ≤ 1000000 → Ev (fun k => spec_l2Lift.l0 k n p K (acc ++ liftStep n P p roots d t) (wrap64 (P * p)) (wrap64 (i + 1))) r → Ev (fun k => spec_l2Lift.l1 k n p K roots P i acc t) r := by
  have hpb : p ≤ 5000 := by
    have := Int.mul_le_mul_of_nonneg_right hP (show 0 ≤ p by omega); omega
  intro d
  induction d with
  | zero =>
    intro t acc ht hd hb h
    refine Ev.step (fun k => ?_) h
    rw [spec_l2Lift.l1, if_neg (by omega), liftStep, List.append_nil]
  | succ d ih =>
    intro t acc ht hd hb h
    rw [Nat.succ_mul] at hb
    have hpk := pickL_length (n := n) (M := P * p) (s := t * P) roots
    refine Ev.step (f := fun k => spec_l2Lift.l2 k n p K roots P i acc t 0) (fun k => by rw [spec_l2Lift.l1, if_pos (by omega)]) ?_
    refine spec_l2Lift_l2 hn hn' hp hP hM hP' ht (by omega) roots [] acc hr (by omega) (by simp; omega) ?_
    rw [w64 (x := t + 1) (by omega) (by omega)]
    refine ih (t + 1) _ (by omega) (by omega) (by rw [List.length_append]; omega) ?_
    rw [liftStep] at h
    rw [List.append_assoc]; exact h
theorem spec_l2Lift_l0 {n p : Int} {K : Nat} (hn : -5000 ≤ n) (hn' : n ≤ 5000) (hp : 2 ≤ p) (hK : p ^ K ≤ 5000) (hK' : K ≤ 100) : ∀ (d i : Nat), i + d = K → Ev (fun k => spec_l2Lift.l0 k n p K (liftL n p i) (p ^ i) i) (liftL n p K) := by
  have hpn : p.toNat = p := Int.toNat_of_nonneg (by omega)
  have lenb : ∀ i : Nat, i ≤ K → (liftL n p i).length ≤ 5000 := by
    intro i hi
    have h1 := liftL_length (n := n) (p := p) i
    have h2 := pow_mono (show 1 ≤ p by omega) hi
    have h3 : ((p.toNat ^ i : Nat) : Int) = p ^ i := by rw [Int.natCast_pow, hpn]
    omega
  intro d
  induction d with
  | zero =>
    intro i hi
    have : i = K := by omega
    subst this
    refine Ev.step (f := fun _ => some (liftL n p i)) (fun k => ?_) (Ev.now _)
    rw [spec_l2Lift.l0, if_neg (by omega)]
  | succ d ih =>
    intro i hi
    have hpos := pow_pos' (show 1 ≤ p by omega) i
    have h1 := pow_mono (show 1 ≤ p by omega) (show i + 1 ≤ K by omega)
    have h2 := pow_mono (show 1 ≤ p by omega) (show i ≤ K by omega)
    have hsucc : p ^ (i + 1) = p ^ i * p := Int.pow_succ ..
    have hpos1 := pow_pos' (show 1 ≤ p by omega) (i + 1)
    have hpb : p ≤ 5000 := by
      have := Int.mul_le_mul_of_nonneg_right hpos (show 0 ≤ p by omega); omega
    have hmul : p.toNat * (liftL n p i).length ≤ 1000000 := by
      have h4 := Nat.mul_le_mul_left p.toNat (liftL_length (n := n) (p := p) i)
      have h5 : ((p.toNat * p.toNat ^ i : Nat) : Int) = p ^ i * p := by
        rw [Int.natCast_mul, Int.natCast_pow, hpn, Int.mul_comm]
      omega
    refine Ev.step (f := fun k => spec_l2Lift.l1 k n p K (liftL n p i) (p ^ i) i [] 0) (fun k => by rw [spec_l2Lift.l0, if_pos (by omega)]) ?_
    refine spec_l2Lift_l1 hn hn' hp hpos (by omega) (by omega) (fun x hx => ?_) (lenb i (by omega)) p.toNat 0 [] (by omega) (by omega) (by simpa using hmul) ?_
    · have := (mem_liftL hp).1 hx
      exact ⟨this.1, this.2.1⟩
    · rw [List.nil_append, w64 (x := p ^ i * p) (by omega) (by omega), w64 (x := (i : Int) + 1) (by omega) (by omega), ← hsucc]
      exact ih (i + 1) (by omega)
theorem spec_l2Lift_ev {n p : Int} {K : Nat} (hn : -5000 ≤ n) (hn' : n ≤ 5000) (hp : 2 ≤ p) (hK : p ^ K ≤ 5000) (hK' : K ≤ 100) : Ev (fun k => spec_l2Lift.f k n p K) (liftL n p K) := by
  have := spec_l2Lift_l0 hn hn' hp hK hK' K 0 (by omega)
  rw [Int.pow_zero] at this
  exact this
theorem spec_LocalRoot_l1 : ∀ (l pre : List Int) (b : Int), (pre ++ l).length ≤ 1000000 → Ev (fun k => spec_LocalRoot.l1 k (pre ++ l) b pre.length) (minL b l, true) := by
  intro l
  induction l with
  | nil =>
    intro pre b hb
    refine Ev.step (f := fun _ => some (b, true)) (fun k => ?_) (Ev.now _)
    rw [spec_LocalRoot.l1, if_neg (by simp)]
  | cons x l ih =>
    intro pre b hb
    have := ih (pre ++ [x]) (if b ≤ x then b else x) (by simpa using hb)
    simp only [List.append_assoc, List.singleton_append, List.length_append, List.length_singleton] at this
    simp only [List.length_append, List.length_cons] at hb
    have hm : mn b x = if b ≤ x then b else x := by
      unfold mn
      by_cases h : x < b
      · rw [if_pos h, if_neg (by omega)]
      · rw [if_neg h, if_pos (by omega)]
    rw [minL]
    refine Ev.step (fun k => ?_) this
    rw [spec_LocalRoot.l1, if_pos (by simp; omega), if_pos (by omega), rd_at, hm, w64 (by omega) (by omega)]
    rfl
theorem spec_LocalRoot_l0 {n p : Int} {K : Nat} (hn : numB n = true) (hp : prB p = true) (h1 : 1 ≤ K) (h12 : K ≤ 12) : ∀ (d i : Nat), i + d = K → Ev (fun k => spec_LocalRoot.l0 k n p K (if p ^ i ≤ 5000 then p ^ i else 5001) i) (lrootOf n p K) := by
  have hpp := prB_true.1 hp
  have h2 := hpp.1.1
  have hnn := numB_true.1 hn
  intro d
  induction d with
  | zero =>
    intro i hi
    have : i = K := by omega
    subst this
    have hpos := pow_pos' (show 1 ≤ p by omega) i
    by_cases h5 : p ^ i ≤ 5000
    · rw [if_pos h5]
      have hv : lrootOf n p i = two (rootS n (p ^ i)) := by
        unfold lrootOf
        rw [if_pos ⟨hn, hp, by omega, by omega, by rw [Int.toNat_natCast]; exact h5⟩, Int.toNat_natCast]
      rw [hv]
      refine Ev.step (f := fun k => (spec_l2Lift.f k n p i).bind fun t => if (t.length : Int) = 0 then some (0, false) else if 0 < (t.length : Int) then spec_LocalRoot.l1 k t (rd t 0) 0 else none) (fun k => ?_) (Ev.bind (spec_l2Lift_ev hnn.1 hnn.2 h2 h5 (by omega)) ?_)
      · rw [spec_LocalRoot.l0, if_neg (by omega), if_neg (by omega)]
      · have hlen : (liftL n p i).length ≤ 5000 := by
          have h1 := liftL_length (n := n) (p := p) i
          have h3 : ((p.toNat ^ i : Nat) : Int) = p ^ i := by rw [Int.natCast_pow, Int.toNat_of_nonneg (by omega)]
          omega
        match hL : liftL n p i with
        | [] => rw [no_root h2 hL]; simp only [List.length_nil]; exact Ev.now _
        | b :: l =>
          rw [min_root h2 hL]
          rw [hL] at hlen
          simp only [if_neg (show ¬ ((b :: l).length : Int) = 0 by rw [List.length_cons]; omega), if_pos (show 0 < ((b :: l).length : Int) by rw [List.length_cons]; omega)]
          exact spec_LocalRoot_l1 (b :: l) [] b (by simp at hlen ⊢; omega)
    · rw [if_neg h5]
      have hv : lrootOf n p i = (0, false) := by
        unfold lrootOf
        rw [if_neg (fun g => h5 (by have := g.2.2.2.2; rwa [Int.toNat_natCast] at this))]
      rw [hv]
      refine Ev.step (f := fun _ => some (0, false)) (fun k => ?_) (Ev.now _)
      rw [spec_LocalRoot.l0, if_neg (by omega), if_pos (by omega)]
  | succ d ih =>
    intro i hi
    have hpos := pow_pos' (show 1 ≤ p by omega) i
    have hsucc : p ^ (i + 1) = p ^ i * p := Int.pow_succ ..
    refine Ev.step (fun k => ?_) (ih (i + 1) (by omega))
    have key : mn (wrap64 ((if p ^ i ≤ 5000 then p ^ i else 5001) * p)) 5001 = if p ^ (i + 1) ≤ 5000 then p ^ (i + 1) else 5001 := by
      rw [hsucc]
      by_cases h5 : p ^ i ≤ 5000
      · rw [if_pos h5]
        have m := mul_bd (show 0 ≤ p ^ i by omega) h5 (show 0 ≤ p by omega) hpp.2
        rw [w64 (by omega) (by omega)]
        unfold mn
        by_cases h6 : p ^ i * p ≤ 5000
        · rw [if_pos h6, if_neg (by omega)]
        · rw [if_neg h6]; split <;> omega
      · rw [if_neg h5]
        have m := Int.mul_le_mul_of_nonneg_left (show 1 ≤ p by omega) (show 0 ≤ p ^ i by omega)
        have m2 := mul_bd (show (0 : Int) ≤ 5001 by omega) (Int.le_refl 5001) (show 0 ≤ p by omega) hpp.2
        rw [w64 (by omega) (by omega), if_neg (by omega)]
        unfold mn
        rw [if_pos (by omega)]
    rw [spec_LocalRoot.l0, if_pos (by omega), key, w64 (x := (i : Int) + 1) (by omega) (by omega)]
    rfl
theorem spec_LocalRoot_no (n p c : Int) : Ev (fun k => spec_LocalRoot.j0 k n p c true) (0, false) := by
  refine Ev.step (f := fun _ => some (0, false)) (fun k => ?_) (Ev.now _)
  rw [spec_LocalRoot.j0, if_pos rfl]
theorem spec_LocalRoot_ev (n p c : Int) : Ev (fun k => spec_LocalRoot.f k n p c) (lrootOf n p c) := by
  unfold spec_LocalRoot.f
  simp only [spec_l1Number_eq, spec_l6In_eq, Option.bind_some]
  by_cases h : numB n = true
  · simp only [if_pos h]
    refine Ev.bind (spec_PrimeIs_ev p) ?_
    by_cases hp : prB p = true
    · simp only [if_pos hp]
      by_cases hc : 1 ≤ c ∧ c ≤ 12
      · rw [decide_eq_true hc]
        refine Ev.step (fun k => by rw [spec_LocalRoot.j0, if_neg (by simp)]) ?_
        have := spec_LocalRoot_l0 (K := c.toNat) h hp (by omega) (by omega) c.toNat 0 (by omega)
        rw [Int.pow_zero, if_pos (by omega), Int.toNat_of_nonneg (by omega)] at this
        exact this
      · have : lrootOf n p c = (0, false) := by unfold lrootOf; rw [if_neg (fun g => hc ⟨g.2.2.1, g.2.2.2.1⟩)]
        rw [decide_eq_false hc, this]; exact spec_LocalRoot_no ..
    · have : lrootOf n p c = (0, false) := by unfold lrootOf; rw [if_neg (fun g => hp g.2.1)]
      simp only [if_neg hp]; rw [this]; exact spec_LocalRoot_no ..
  · have : lrootOf n p c = (0, false) := by unfold lrootOf; rw [if_neg (fun g => h g.1)]
    simp only [if_neg h]; rw [this]; exact spec_LocalRoot_no ..
theorem FnExactLocalRoot : laws_FnExactLocalRoot.Pure := by
  intro n p c _ _ _
  refine Ev.rounds ?_
  unfold laws_FnExactLocalRoot.f
  refine Ev.bind (spec_LocalRoot_ev n p c) (Ev.bind (impl_LocalRoot_ev n p c) ?_)
  rw [if_pos rfl, bne_self_eq_false, if_neg (by simp)]; exact Ev.now _

end Go.Proofs.Ytmepbogcfkecnaa.Pure
