/- At every draw the program's LocalUnit is the reference's; the unit's unit is itself, the prime does not divide it, and times the prime as often as it divides it is the number.
No condition beyond the given statement. The printed functions are tied to plain arithmetic one by one; the law follows at the end. -/
import Derived.Test.YtnbjnlbaoogbmaaWSized
import Derived.Test.YtnbjnlbaoogbmaaPFnUnitx2
import Derived.Test.YtnbjnlbaoogbmaaM7
set_option linter.unusedVariables false
set_option linter.unusedSimpArgs false
namespace Go.Proofs.Ytnbjnlbaoogbmaa
open Go.ChangeShapes Go.WideShapes
/-- The words' lemma on the length of a slice, under the name by which the row of this law calls it. -/
theorem PrintWords.sized_ints {H : Type} {enc : TypeId × Value → H} {P : Program} {W : World} {base : Nat} {spare : Nat → Bool} {held : Bool} {t e : TypeId} {k : IntKind} {a : Option Addr} {len cap : Nat} {d : DataW H} {ps : List MemPlace} {ts : List TypeId} {ds : List (DataW H)} {j : Nat}
    (hsz : (DataW.weightsEach P ts ds).all (· ≤ reachBytes) = true) (ht : ts[j]? = some t) (hd : ds[j]? = some d) (hu : P.underlying t = some (.slice e)) (he : P.underlying e = some (.int k)) (hc : P.cellsOf e = 1) {B : Nat} (hB : P.bytesOf e = B)
    (h : DataW.Trod enc P W base spare held t (.slice a len cap) d ps) : len * B ≤ 140737488351232 :=
  Go.Proofs.YtnbjnlbaoogbmaaW.PrintWords.sized_ints hsz ht hd hu he hc hB h
end Go.Proofs.Ytnbjnlbaoogbmaa
namespace Go.Proofs.Ytnbjnlbaoogbmaa.Pure
open Go.RowKit Go.Proofs.Ytnbjnlbaoogbmaa.PFnUnit Go.Proofs.YtnbjnlbaoogbmaaW.PrintWords Go.Proofs.YtnbjnlbaoogbmaaW.PrintLast Go.Proofs.YtnbjnlbaoogbmaaW.PrintMore Go.Proofs.LG

theorem spec_l6In_eq (a b c : Int) : spec_l6In.f a b c = some (decide (b ≤ a ∧ a ≤ c)) := by
  unfold spec_l6In.f
  by_cases h : a ≥ b
  · rw [if_pos h]; congr 1; rw [decide_eq_decide]; omega
  · rw [if_neg h]; congr 1; symm; rw [decide_eq_false_iff_not]; omega
theorem spec_l1Number_eq (a : Int) : spec_l1Number.f a = some (numB a) := by
  unfold spec_l1Number.f; rw [spec_l6In_eq]; rfl
theorem impl_isNumber_eq (a : Int) : impl_isNumber.f a = some (numB a) := by
  unfold impl_isNumber.f numB
  by_cases h : a ≥ -5000
  · rw [if_pos h]; congr 1; rw [decide_eq_decide]; omega
  · rw [if_neg h]; congr 1; symm; rw [decide_eq_false_iff_not]; omega
theorem spec_PrimeIs_l0 {n : Int} (h2 : 2 ≤ n) (hn : n ≤ 5000) : ∀ (d : Nat) (x : Int), 2 ≤ x → x ≤ n → n - x ≤ d → (∀ y, 2 ≤ y → y < x → ¬ y ∣ n) → Ev (fun k => spec_PrimeIs.l0 k n x) (prB n) := by
  intro d
  induction d with
  | zero =>
    intro x hx hxn hd h
    have := sq_gt hx (show n ≤ x by omega)
    have hb := mul_bd (show 0 ≤ x by omega) (show x ≤ 5000 by omega) (show 0 ≤ x by omega) (show x ≤ 5000 by omega)
    refine Ev.step (f := fun _ => some true) (fun k => ?_) ?_
    · rw [spec_PrimeIs.l0, w64 (by omega) (by omega), if_neg (by omega)]
    · rw [prB_true.2 ⟨pr_of_none h2 x (by omega) (by omega) h, hn⟩]; exact Ev.now _
  | succ d ih =>
    intro x hx hxn hd h
    have hb := mul_bd (show 0 ≤ x by omega) (show x ≤ 5000 by omega) (show 0 ≤ x by omega) (show x ≤ 5000 by omega)
    by_cases hle : x * x ≤ n
    · by_cases hdv : x ∣ n
      · have hlt : x < n := by
          have := sq_gt hx (Int.le_refl x); omega
        refine Ev.step (f := fun _ => some false) (fun k => ?_) ?_
        · rw [spec_PrimeIs.l0, w64 (by omega) (by omega), if_pos hle, if_neg (by omega), if_pos (Int.tmod_eq_zero_of_dvd hdv)]
        · rw [prB_false.2 fun hp => hp.1.2 x hx hlt hdv]; exact Ev.now _
      · have hlt : x < n := by
          have := sq_gt hx (Int.le_refl x); omega
        refine Ev.step (f := fun k => spec_PrimeIs.l0 k n (x + 1)) (fun k => ?_) (ih (x + 1) (by omega) (by omega) (by omega) ?_)
        · rw [spec_PrimeIs.l0, w64 (by omega) (by omega), if_pos hle, if_neg (by omega), if_neg (fun e => hdv (Int.dvd_of_tmod_eq_zero e)), w64 (by omega) (by omega)]
        · intro y h1 h2'
          by_cases e : y = x
          · subst e; exact hdv
          · exact h y h1 (by omega)
    · refine Ev.step (f := fun _ => some true) (fun k => ?_) ?_
      · rw [spec_PrimeIs.l0, w64 (by omega) (by omega), if_neg hle]
      · rw [prB_true.2 ⟨pr_of_none h2 x (by omega) (by omega) h, hn⟩]; exact Ev.now _
theorem spec_PrimeIs_ev (n : Int) : Ev (fun k => spec_PrimeIs.f k n) (prB n) := by
  unfold spec_PrimeIs.f
  simp only [spec_l6In_eq, Option.bind_some]
  by_cases h : 2 ≤ n ∧ n ≤ 5000
  · rw [decide_eq_true h]
    simp only [if_true]
    exact spec_PrimeIs_l0 h.1 h.2 (n - 2).toNat 2 (by omega) (by omega) (by omega) fun y h1 h2 => by omega
  · rw [decide_eq_false h]
    rw [prB_false.2 fun hp => h ⟨hp.1.1, hp.2⟩]
    exact Ev.now _
theorem impl_prime_l0 {n : Int} (h2 : 2 ≤ n) (hn : n ≤ 5000) : ∀ (d : Nat) (x : Int), 2 ≤ x → x ≤ n → n - x ≤ d → (∀ y, 2 ≤ y → y < x → ¬ y ∣ n) → Ev (fun k => impl_prime.l0 k n x) (prB n) := by
  intro d
  induction d with
  | zero =>
    intro x hx hxn hd h
    have := sq_gt hx (show n ≤ x by omega)
    have hb := mul_bd (show 0 ≤ x by omega) (show x ≤ 5000 by omega) (show 0 ≤ x by omega) (show x ≤ 5000 by omega)
    refine Ev.step (f := fun _ => some true) (fun k => ?_) ?_
    · rw [impl_prime.l0, w64 (by omega) (by omega), if_neg (by omega), decide_eq_true (by omega)]
    · rw [prB_true.2 ⟨pr_of_none h2 x (by omega) (by omega) h, hn⟩]; exact Ev.now _
  | succ d ih =>
    intro x hx hxn hd h
    have hb := mul_bd (show 0 ≤ x by omega) (show x ≤ 5000 by omega) (show 0 ≤ x by omega) (show x ≤ 5000 by omega)
    by_cases hle : x * x ≤ n
    · by_cases hdv : x ∣ n
      · have hlt : x < n := by
          have := sq_gt hx (Int.le_refl x); omega
        refine Ev.step (f := fun _ => some false) (fun k => ?_) ?_
        · rw [impl_prime.l0, w64 (by omega) (by omega), if_pos hle, if_neg (by omega), if_pos (Int.tmod_eq_zero_of_dvd hdv)]
        · rw [prB_false.2 fun hp => hp.1.2 x hx hlt hdv]; exact Ev.now _
      · have hlt : x < n := by
          have := sq_gt hx (Int.le_refl x); omega
        refine Ev.step (f := fun k => impl_prime.l0 k n (x + 1)) (fun k => ?_) (ih (x + 1) (by omega) (by omega) (by omega) ?_)
        · rw [impl_prime.l0, w64 (by omega) (by omega), if_pos hle, if_neg (by omega), if_neg (fun e => hdv (Int.dvd_of_tmod_eq_zero e)), w64 (by omega) (by omega)]
        · intro y h1 h2'
          by_cases e : y = x
          · subst e; exact hdv
          · exact h y h1 (by omega)
    · refine Ev.step (f := fun _ => some true) (fun k => ?_) ?_
      · rw [impl_prime.l0, w64 (by omega) (by omega), if_neg hle, decide_eq_true (by omega)]
      · rw [prB_true.2 ⟨pr_of_none h2 x (by omega) (by omega) h, hn⟩]; exact Ev.now _
theorem impl_PrimeIs_ev (n : Int) : Ev (fun k => impl_PrimeIs.f k n) (prB n) := by
  unfold impl_PrimeIs.f
  by_cases h5 : n ≤ 5000
  · simp only [if_pos h5]
    refine Ev.bind (a := prB n) ?_ (Ev.now _)
    unfold impl_prime.f
    by_cases h : 2 ≤ n
    · exact impl_prime_l0 h h5 (n - 2).toNat 2 (by omega) (by omega) (by omega) fun y h1 h2 => by omega
    · refine Ev.step (f := fun _ => some false) (fun k => ?_) ?_
      · rw [impl_prime.l0, w64 (by omega) (by omega), if_neg (by omega), decide_eq_false (by omega)]
      · rw [prB_false.2 fun hp => h hp.1.1]; exact Ev.now _
  · simp only [if_neg h5]
    rw [prB_false.2 fun hp => h5 hp.2]
    exact Ev.now _
theorem spec_l1Valuation_l0 {p : Int} (hp : 2 ≤ p) (hp' : p ≤ 1000000000000000) : ∀ (f : Nat) (n : Int), n ≠ 0 → n.natAbs ≤ f → n.natAbs ≤ 1000000000000000 → ∀ c : Int, 0 ≤ c → c + f ≤ 2000000000000000 → Ev (fun k => spec_l1Valuation.l0 k n p c) (c + (spl f n p).1, (spl f n p).2) := by
  intro f
  induction f with
  | zero => intro n hn hf; omega
  | succ f ih =>
    intro n hn hf hb c hc hcf
    rw [spl]
    by_cases h : n % p = 0
    · obtain ⟨h1, h2, h3⟩ := div_smaller hp hn h
      rw [if_pos h]
      have := ih (n / p) h1 (by omega) (by omega) (c + 1) (by omega) (by omega)
      have e : c + (((spl f (n / p) p).1 + 1 : Nat) : Int) = c + 1 + ((spl f (n / p) p).1 : Int) := by omega
      show Ev (fun k => spec_l1Valuation.l0 k n p c) (c + (((spl f (n / p) p).1 + 1 : Nat) : Int), (spl f (n / p) p).2)
      rw [e]
      refine Ev.step (fun k => ?_) this
      rw [spec_l1Valuation.l0, if_neg (by omega), if_pos (tm_zero.2 h), td_dvd h, w64 (by omega) (by omega), w64 (by omega) (by omega)]
    · rw [if_neg h]
      refine Ev.step (f := fun _ => some (c, n)) (fun k => ?_) ?_
      · rw [spec_l1Valuation.l0, if_neg (by omega), if_neg (fun e => h (tm_zero.1 e))]
      · have e : c + ((0 : Nat) : Int) = c := by omega
        show Ev _ (c + ((0 : Nat) : Int), n)
        rw [e]; exact Ev.now _
theorem spec_l1Valuation_ev {n p : Int} (hp : 2 ≤ p) (hp' : p ≤ 1000000000000000) (hn : n ≠ 0) (hb : n.natAbs ≤ 1000000000000000) : Ev (fun k => spec_l1Valuation.f k n p) ((vl n p : Int), un n p) := by
  have := spec_l1Valuation_l0 hp hp' n.natAbs n hn (Nat.le_refl _) hb 0 (by omega) (by omega)
  rw [Int.zero_add] at this
  exact this
theorem impl_split_l0 {p : Int} (hp : 2 ≤ p) (hp' : p ≤ 1000000000000000) : ∀ (f : Nat) (n : Int), n ≠ 0 → n.natAbs ≤ f → n.natAbs ≤ 1000000000000000 → ∀ c : Int, 0 ≤ c → c + f ≤ 2000000000000000 → Ev (fun k => impl_split.l0 k n p c) (c + (spl f n p).1, (spl f n p).2) := by
  intro f
  induction f with
  | zero => intro n hn hf; omega
  | succ f ih =>
    intro n hn hf hb c hc hcf
    rw [spl]
    by_cases h : n % p = 0
    · obtain ⟨h1, h2, h3⟩ := div_smaller hp hn h
      rw [if_pos h]
      have := ih (n / p) h1 (by omega) (by omega) (c + 1) (by omega) (by omega)
      have e : c + (((spl f (n / p) p).1 + 1 : Nat) : Int) = c + 1 + ((spl f (n / p) p).1 : Int) := by omega
      show Ev (fun k => impl_split.l0 k n p c) (c + (((spl f (n / p) p).1 + 1 : Nat) : Int), (spl f (n / p) p).2)
      rw [e]
      refine Ev.step (fun k => ?_) this
      rw [impl_split.l0, if_neg (by omega), if_pos (tm_zero.2 h), td_dvd h, w64 (by omega) (by omega), w64 (by omega) (by omega)]
    · rw [if_neg h]
      refine Ev.step (f := fun _ => some (c, n)) (fun k => ?_) ?_
      · rw [impl_split.l0, if_neg (by omega), if_neg (fun e => h (tm_zero.1 e))]
      · have e : c + ((0 : Nat) : Int) = c := by omega
        show Ev _ (c + ((0 : Nat) : Int), n)
        rw [e]; exact Ev.now _
theorem impl_split_ev {n p : Int} (hp : 2 ≤ p) (hp' : p ≤ 1000000000000000) (hn : n ≠ 0) (hb : n.natAbs ≤ 1000000000000000) : Ev (fun k => impl_split.f k n p) ((vl n p : Int), un n p) := by
  have := impl_split_l0 hp hp' n.natAbs n hn (Nat.le_refl _) hb 0 (by omega) (by omega)
  rw [Int.zero_add] at this
  exact this
theorem spec_ValuationOf_ev (n p : Int) : Ev (fun k => spec_ValuationOf.f k n p) (valuOf n p) := by
  unfold spec_ValuationOf.f valuOf
  simp only [spec_l1Number_eq, Option.bind_some]
  by_cases h : numB n = true
  · simp only [if_pos h]
    by_cases h0 : n = 0
    · simp only [if_pos h0]; rw [if_neg (fun h' => h'.1 h0)]; exact Ev.now _
    · simp only [if_neg h0]
      refine Ev.bind (spec_PrimeIs_ev p) ?_
      by_cases hp : prB p = true
      · simp only [if_pos hp]; rw [if_pos ⟨h0, h, hp⟩]
        have hp' := prB_true.1 hp
        have hn := numB_true.1 h
        exact Ev.bind (spec_l1Valuation_ev hp'.1.1 (by omega) h0 (by omega)) (Ev.now _)
      · simp only [if_neg hp]; rw [if_neg (fun h' => hp h'.2.2)]; exact Ev.now _
  · simp only [if_neg h]; rw [if_neg (fun h' => h h'.2.1)]; exact Ev.now _
theorem impl_ValuationOf_ev (n p : Int) : Ev (fun k => impl_ValuationOf.f k n p) (valuOf n p) := by
  unfold impl_ValuationOf.f valuOf
  simp only [impl_isNumber_eq, Option.bind_some]
  by_cases h0 : n = 0
  · simp only [if_pos h0]; rw [if_neg (fun h' => h'.1 h0)]; exact Ev.now _
  · simp only [if_neg h0]
    by_cases h : numB n = true
    · simp only [if_pos h]
      refine Ev.bind (impl_PrimeIs_ev p) ?_
      by_cases hp : prB p = true
      · simp only [if_pos hp]; rw [if_pos ⟨h0, h, hp⟩]
        have hp' := prB_true.1 hp
        have hn := numB_true.1 h
        exact Ev.bind (impl_split_ev hp'.1.1 (by omega) h0 (by omega)) (Ev.now _)
      · simp only [if_neg hp]; rw [if_neg (fun h' => hp h'.2.2)]; exact Ev.now _
    · simp only [if_neg h]; rw [if_neg (fun h' => h h'.2.1)]; exact Ev.now _
theorem spec_LocalUnit_ev (n p : Int) : Ev (fun k => spec_LocalUnit.f k n p) (unitOf n p) := by
  unfold spec_LocalUnit.f unitOf
  refine Ev.bind (spec_ValuationOf_ev n p) ?_
  by_cases h : n ≠ 0 ∧ numB n = true ∧ prB p = true
  · simp only [if_neg (fun h' => (valuOf_neg.1 h') h)]; rw [if_pos h]
    have hp' := prB_true.1 h.2.2
    have hn := numB_true.1 h.2.1
    exact Ev.bind (spec_l1Valuation_ev hp'.1.1 (by omega) h.1 (by omega)) (Ev.now _)
  · simp only [if_pos (valuOf_neg.2 h)]; rw [if_neg h]; exact Ev.now _
theorem impl_LocalUnit_ev (n p : Int) : Ev (fun k => impl_LocalUnit.f k n p) (unitOf n p) := by
  unfold impl_LocalUnit.f unitOf
  refine Ev.bind (impl_ValuationOf_ev n p) ?_
  by_cases h : n ≠ 0 ∧ numB n = true ∧ prB p = true
  · simp only [if_neg (fun h' => (valuOf_neg.1 h') h)]; rw [if_pos h]
    have hp' := prB_true.1 h.2.2
    have hn := numB_true.1 h.2.1
    exact Ev.bind (impl_split_ev hp'.1.1 (by omega) h.1 (by omega)) (Ev.now _)
  · simp only [if_pos (valuOf_neg.2 h)]; rw [if_neg h]; exact Ev.now _
theorem rd_pre (p : List Int) (a : Int) (l : List Int) : rd (p ++ a :: l) (p.length : Int) = a := by
  unfold rd
  rw [Int.toNat_natCast, List.getD_eq_getElem?_getD, List.getElem?_append_right (Nat.le_refl _)]
  simp
theorem set_pre (p : List Int) (a : Int) (l : List Int) (c : Int) : (p ++ a :: l).set ((p.length : Int)).toNat c = p ++ c :: l := by
  rw [Int.toNat_natCast, List.set_append_right _ _ (Nat.le_refl _)]
  simp
theorem spec_l6Open_eq {l : List Int} (h : ∀ x ∈ l, (Lit.int .u8 x).wf = true) : ∃ b, GB b ∧ spec_l6Open.f l = some (b, 0) := by
  unfold spec_l6Open.f
  by_cases h1 : (l.length : Int) > 2000
  · rw [if_pos h1, if_pos (by omega)]
    exact ⟨l.take 2000, ⟨by simp; omega, fun x hx => u8_bd (h x (List.mem_of_mem_take hx))⟩, rfl⟩
  · rw [if_neg h1]
    exact ⟨l, ⟨by omega, fun x hx => u8_bd (h x hx)⟩, rfl⟩
theorem rd_bd {b : List Int} (hb : GB b) (i : Int) : 0 ≤ rd b i ∧ rd b i ≤ 255 := by
  unfold rd
  rw [List.getD_eq_getElem?_getD]
  cases h : b[i.toNat]? with
  | none => simp
  | some x => exact hb.2 x (List.mem_of_getElem? h)
theorem pick_ev {b : List Int} (hb : GB b) {p n : Int} (hp : 0 ≤ p) (hp' : p ≤ 1000) (hn : 1 ≤ n) (hn' : n ≤ 1000) : ∃ v, 0 ≤ v ∧ v < n ∧ Ev (fun k => spec_l6Rd_pick.f k b p n) (v, p + 1) := by
  have hl := hb.1
  have e1 : wrap64 (p + 1) = p + 1 := w64 (by omega) (by omega)
  have e2 : wrap64 (p + 1 - 1) = p := by rw [w64 (by omega) (by omega)]; omega
  unfold spec_l6Rd_pick.f
  simp only [if_neg (show ¬ n < 1 by omega), e1]
  by_cases h0 : b.length = 0
  · refine ⟨0, by omega, by omega, Ev.step (f := fun _ => some (0, p + 1)) (fun k => ?_) (Ev.now _)⟩
    rw [spec_l6Rd_pick.j0, if_pos (by simp [h0])]
  · have hL : ((b.length : Int) == 0) = false := by rw [beq_eq_false_iff_ne]; omega
    rw [hL]
    by_cases h1 : p < (b.length : Int)
    · have hr := rd_bd hb p
      have m := emod_bd (rd b p) (show 0 < n by omega)
      refine ⟨rd b p % n, m.1, m.2, Ev.step (f := fun _ => some (rd b p % n, p + 1)) (fun k => ?_) (Ev.now _)⟩
      rw [spec_l6Rd_pick.j0, if_neg (by simp), e2, if_pos h1, if_pos hp, if_neg (by omega), w64 (x := rd b p) (by omega) (by omega), tm hr.1]
    · have m1 := emod_bd p (show (0 : Int) < b.length by omega)
      have t1 : Int.tmod p (b.length : Int) = p % (b.length : Int) := tm hp
      have e7 : wrap64 (wrap64 (p * 7) + 3) = p * 7 + 3 := by rw [w64 (x := p * 7) (by omega) (by omega), w64 (by omega) (by omega)]
      have t2 : Int.tmod (p * 7 + 3) (b.length : Int) = (p * 7 + 3) % (b.length : Int) := tm (by omega)
      have m2 := emod_bd (p * 7 + 3) (show (0 : Int) < b.length by omega)
      have r1 := rd_bd hb (p % (b.length : Int))
      have r2 := rd_bd hb ((p * 7 + 3) % (b.length : Int))
      have d1 : Int.tdiv p (b.length : Int) = p / (b.length : Int) := Int.tdiv_eq_ediv_of_nonneg hp
      have d2 : 0 ≤ p / (b.length : Int) ∧ p / (b.length : Int) ≤ p := ⟨Int.ediv_nonneg hp (by omega), Int.ediv_le_self _ hp⟩
      have key : ∃ v, 0 ≤ v ∧ v < n ∧ ∀ k, spec_l6Rd_pick.j0 (k + 1) n false b (p + 1) = some (v, p + 1) := by
        generalize hq1 : rd b (p % (b.length : Int)) = q1 at r1
        generalize hq2 : rd b ((p * 7 + 3) % (b.length : Int)) = q2 at r2
        generalize hq3 : p / (b.length : Int) = q3 at d1 d2
        have hx0 : 0 ≤ Go.bits .xor .i64 (q1 * 131 + q2 * 1117 + p * 29 + q3 * 53) ((q1 * 131 + q2 * 1117 + p * 29 + q3 * 53) / 64) := xor_nonneg (by omega) (by omega) (by omega) (by omega)
        refine ⟨_, (emod_bd (Go.bits .xor .i64 (q1 * 131 + q2 * 1117 + p * 29 + q3 * 53) ((q1 * 131 + q2 * 1117 + p * 29 + q3 * 53) / 64)) (show 0 < n by omega)).1, (emod_bd _ (show 0 < n by omega)).2, fun k => ?_⟩
        rw [spec_l6Rd_pick.j0, if_neg (by simp), e2, if_neg h1, if_neg (by omega), t1, if_pos m1.1, if_pos m1.2, e7, t2, if_pos m2.1, if_pos m2.2, if_neg (by omega), hq1, hq2, d1,
          w64 (x := q1) (by omega) (by omega), w64 (x := q2) (by omega) (by omega), w64 (x := q1 * 131) (by omega) (by omega), w64 (x := q2 * 1117) (by omega) (by omega), w64 (x := q1 * 131 + q2 * 1117) (by omega) (by omega),
          w64 (x := p * 29) (by omega) (by omega), w64 (x := q1 * 131 + q2 * 1117 + p * 29) (by omega) (by omega), w64 (x := q3) (by omega) (by omega), w64 (x := q3 * 53) (by omega) (by omega),
          w64 (x := q1 * 131 + q2 * 1117 + p * 29 + q3 * 53) (by omega) (by omega),
          Int.tdiv_eq_ediv_of_nonneg (a := q1 * 131 + q2 * 1117 + p * 29 + q3 * 53) (by omega), w64 (x := (q1 * 131 + q2 * 1117 + p * 29 + q3 * 53) / 64) (by omega) (by omega), tm hx0]
      obtain ⟨v, h2, h3, h4⟩ := key
      exact ⟨v, h2, h3, Ev.step (f := fun _ => some (v, p + 1)) h4 (Ev.now _)⟩
theorem l91Number_ev {b : List Int} (hb : GB b) {p : Int} (hp : 0 ≤ p) (hp' : p ≤ 500) : ∃ n q, DN n ∧ p ≤ q ∧ q ≤ p + 4 ∧ Ev (fun k => spec_l91Number.f k b p) (n, q) := by
  unfold spec_l91Number.f
  obtain ⟨v, a1, a2, a3⟩ := pick_ev hb (p := p) (n := 30) hp (by omega) (by omega) (by omega)
  by_cases h : v = 0
  · obtain ⟨u, b1, b2, b3⟩ := pick_ev hb (p := p + 1) (n := 6) (by omega) (by omega) (by omega) (by omega)
    have key : DN (rd [0, 5000, 5001, (-5001), 4096, 3969] u) := by
      have : u = 0 ∨ u = 1 ∨ u = 2 ∨ u = 3 ∨ u = 4 ∨ u = 5 := by omega
      rcases this with rfl | rfl | rfl | rfl | rfl | rfl <;> simp [DN, rd]
    refine ⟨_, p + 2, key, by omega, by omega, Ev.bind a3 ?_⟩
    simp only [if_pos h, Option.bind_some]
    refine Ev.bind b3 ?_
    simp only [if_pos b1]
    rw [if_pos (by simp; omega), show p + 1 + 1 = p + 2 by omega]
    exact Ev.now _
  · obtain ⟨u, b1, b2, b3⟩ := pick_ev hb (p := p + 1) (n := 40) (by omega) (by omega) (by omega) (by omega)
    obtain ⟨x, c1, c2, c3⟩ := pick_ev hb (p := p + 1 + 1) (n := 3) (by omega) (by omega) (by omega) (by omega)
    obtain ⟨s, d1, d2, d3⟩ := pick_ev hb (p := p + 1 + 1 + 1) (n := 2) (by omega) (by omega) (by omega) (by omega)
    have hux : 0 ≤ u * (1 + x) ∧ u * (1 + x) ≤ 117 := by
      have : x = 0 ∨ x = 1 ∨ x = 2 := by omega
      rcases this with rfl | rfl | rfl <;> omega
    by_cases hs : s = 0
    · refine ⟨-(1 + u * (1 + x)), p + 4, ?_, by omega, by omega, Ev.bind a3 ?_⟩
      · unfold DN; omega
      simp only [if_neg h]
      refine Ev.bind b3 (Ev.bind c3 (Ev.bind d3 ?_))
      simp only [if_pos hs]
      rw [w64 (x := 1 + x) (by omega) (by omega), w64 (x := u * (1 + x)) (by omega) (by omega), w64 (x := 1 + u * (1 + x)) (by omega) (by omega), w64 (x := -(1 + u * (1 + x))) (by omega) (by omega), show p + 1 + 1 + 1 + 1 = p + 4 by omega]
      exact Ev.now _
    · refine ⟨1 + u * (1 + x), p + 4, ?_, by omega, by omega, Ev.bind a3 ?_⟩
      · unfold DN; omega
      simp only [if_neg h]
      refine Ev.bind b3 (Ev.bind c3 (Ev.bind d3 ?_))
      simp only [if_neg hs]
      rw [w64 (x := 1 + x) (by omega) (by omega), w64 (x := u * (1 + x)) (by omega) (by omega), w64 (x := 1 + u * (1 + x)) (by omega) (by omega), show p + 1 + 1 + 1 + 1 = p + 4 by omega]
      exact Ev.now _
theorem l91Prime_ev {b : List Int} (hb : GB b) {p : Int} (hp : 0 ≤ p) (hp' : p ≤ 500) : ∃ n q, DP n ∧ p ≤ q ∧ q ≤ p + 4 ∧ Ev (fun k => spec_l91Prime.f k b p) (n, q) := by
  unfold spec_l91Prime.f
  obtain ⟨v, a1, a2, a3⟩ := pick_ev hb (p := p) (n := 24) hp (by omega) (by omega) (by omega)
  by_cases h : v = 0
  · obtain ⟨u, b1, b2, b3⟩ := pick_ev hb (p := p + 1) (n := 6) (by omega) (by omega) (by omega) (by omega)
    have key : DP (rd [0, 1, 4, (-3), 97, 9] u) := by
      have : u = 0 ∨ u = 1 ∨ u = 2 ∨ u = 3 ∨ u = 4 ∨ u = 5 := by omega
      rcases this with rfl | rfl | rfl | rfl | rfl | rfl <;> simp [DP, rd]
    refine ⟨_, p + 1 + 1, key, by omega, by omega, Ev.bind a3 ?_⟩
    simp only [if_pos h, Option.bind_some]
    refine Ev.bind b3 ?_
    simp only [if_pos b1]
    rw [if_pos (by simp; omega)]
    exact Ev.now _
  · obtain ⟨u, b1, b2, b3⟩ := pick_ev hb (p := p + 1) (n := 8) (by omega) (by omega) (by omega) (by omega)
    have key : DP (rd [2, 3, 5, 7, 11, 13, 3, 2] u) := by
      have : u = 0 ∨ u = 1 ∨ u = 2 ∨ u = 3 ∨ u = 4 ∨ u = 5 ∨ u = 6 ∨ u = 7 := by omega
      rcases this with rfl | rfl | rfl | rfl | rfl | rfl | rfl | rfl <;> simp [DP, rd]
    refine ⟨_, p + 1 + 1, key, by omega, by omega, Ev.bind a3 ?_⟩
    simp only [if_neg h, Option.bind_some]
    refine Ev.bind b3 ?_
    simp only [if_pos b1]
    rw [if_pos (by simp; omega)]
    exact Ev.now _
theorem DrawLocalUnit_ev {l : List Int} (h : ∀ x ∈ l, (Lit.int .u8 x).wf = true) : ∃ n p, DN n ∧ DP p ∧ Ev (fun k => spec_DrawLocalUnit.f k l) (n, p) := by
  obtain ⟨bs, hb, e⟩ := spec_l6Open_eq h
  unfold spec_DrawLocalUnit.f
  simp only [e, Option.bind_some]
  obtain ⟨n, q, a1, a2, a3, a4⟩ := l91Number_ev hb (p := 0) (by omega) (by omega)
  obtain ⟨p, r, b1, b2, b3, b4⟩ := l91Prime_ev hb (p := q) (by omega) (by omega)
  exact ⟨n, p, a1, b1, Ev.bind a4 (Ev.bind b4 (Ev.now _))⟩
theorem unit_part {n p : Int} (hp : 2 ≤ p) (hn : n ≠ 0) {i : Nat} (hi : i ≤ vl n p) : (un n p * p ^ i).natAbs ≤ n.natAbs := by
  have e := vl_eq hp hn
  obtain ⟨c, hc⟩ := Nat.exists_eq_add_of_le hi
  have hd : un n p * p ^ i ∣ n := ⟨p ^ c, by conv => lhs; rw [e, hc, Int.pow_add]
                                             grind⟩
  exact Nat.le_of_dvd (by omega) (Int.natAbs_dvd_natAbs.2 hd)
theorem FnUnit_l0 {n p : Int} (hn : n ≠ 0) (hb : n.natAbs ≤ 5000) (hp : Pr p) : ∀ (d i : Nat), i + d = vl n p → Ev (fun k => laws_FnUnit.l0 k n p (un n p) (un n p) true (vl n p) (un n p * p ^ i) i) true := by
  have hvl := vl_lt hp.1 hn
  intro d
  induction d with
  | zero =>
    intro i hi
    have e : un n p * p ^ i = n := by
      have : i = vl n p := by omega
      rw [this, Int.mul_comm]; exact (vl_eq hp.1 hn).symm
    refine Ev.step (f := fun _ => some true) (fun k => ?_) (Ev.now _)
    have := hp.1
    rw [laws_FnUnit.l0, if_neg (by omega), if_pos rfl, if_pos rfl, if_neg (by omega), if_neg (fun h => un_not_dvd hp.1 hn (Int.dvd_of_emod_eq_zero (tm_zero.1 h))), e, beq_self_eq_true]
  | succ d ih =>
    intro i hi
    have h1 := unit_part hp.1 hn (show i + 1 ≤ vl n p by omega)
    rw [Int.pow_succ, ← Int.mul_assoc] at h1
    refine Ev.step (fun k => ?_) (ih (i + 1) (by omega))
    rw [laws_FnUnit.l0, if_pos (by omega), w64 (x := un n p * p ^ i * p) (by omega) (by omega), w64 (x := (i : Int) + 1) (by omega) (by omega), Int.mul_assoc, ← Int.pow_succ]
    rfl
theorem FnUnit : laws_FnUnit.Pure := by
  intro l _ _ hl
  refine Ev.rounds ?_
  unfold laws_FnUnit.f
  by_cases hlen : (l.length : Int) > 1048576
  · simp only [if_pos hlen]; exact Ev.now _
  · simp only [if_neg hlen]
    obtain ⟨n, p, dn, dp, hev⟩ := DrawLocalUnit_ev hl
    refine Ev.bind hev (Ev.bind (impl_LocalUnit_ev n p) (Ev.bind (spec_LocalUnit_ev n p) ?_))
    simp only [bne_self_eq_false, if_true, Bool.false_eq_true, if_false]
    by_cases hc : n ≠ 0 ∧ numB n = true ∧ prB p = true
    · have hv : unitOf n p = (un n p, true) := by unfold unitOf; rw [if_pos hc]
      have hn := numB_true.1 hc.2.1
      have hp := prB_true.1 hc.2.2
      have hle := natAbs_un_le hp.1.1 hc.1
      have hv2 : unitOf (un n p) p = (un n p, true) := by
        unfold unitOf
        rw [if_pos ⟨un_ne_zero hp.1.1 hc.1, numB_true.2 ⟨by omega, by omega⟩, hc.2.2⟩, (vl_unit hp.1.1 (un_not_dvd hp.1.1 hc.1)).2]
      have hv3 : valuOf n p = (vl n p : Int) := by unfold valuOf; rw [if_pos hc]
      rw [hv]
      refine Ev.step (fun k => by rw [laws_FnUnit.j0, if_neg (by simp)]) ?_
      refine Ev.bind (impl_LocalUnit_ev (un n p) p) (Ev.bind (impl_ValuationOf_ev n p) ?_)
      rw [hv2, hv3]
      have := FnUnit_l0 hc.1 (by omega) hp.1 (vl n p) 0 (by omega)
      rw [Int.pow_zero, Int.mul_one] at this
      exact this
    · have hv : unitOf n p = (0, false) := by unfold unitOf; rw [if_neg hc]
      rw [hv]
      refine Ev.step (f := fun _ => some true) (fun k => ?_) (Ev.now _)
      rw [laws_FnUnit.j0, if_pos (by simp), if_pos (by simp), beq_self_eq_true]

end Go.Proofs.Ytnbjnlbaoogbmaa.Pure
