/- At every draw the program's SymbolWays is the reference's; at 2 there is a way, and up to an odd prime that divides both numbers or none there are p * p - 1 ways.
No condition beyond the given statement. The printed functions are tied to plain arithmetic one by one; the law follows at the end. -/
import Derived.Test.YtnbjnlbaoogbmaaWSized
import Derived.Test.YtnbjnlbaoogbmaaOwnFnWays
import Derived.Test.YtnbjnlbaoogbmaaM12
set_option linter.unusedVariables false
set_option linter.unusedSimpArgs false
namespace Go.Proofs.Ytnbjnlbaoogbmaa
open Go.ChangeShapes Go.WideShapes
/-- The words' lemma on the length of a slice, under the name by which the row of this law calls it. -/
theorem PrintWords.sized_ints {H : Type} {enc : TypeId × Value → H} {P : Program} {W : World} {base : Nat} {spare : Nat → Bool} {held : Bool} {t e : TypeId} {k : IntKind} {a : Option Addr} {len cap : Nat} {d : DataW H} {ps : List MemPlace} {ts : List TypeId} {ds : List (DataW H)} {j : Nat}
    (hsz : (DataW.weightsEach P ts ds).all (· ≤ reachBytes) = true) (ht : ts[j]? = some t) (hd : ds[j]? = some d) (hu : P.underlying t = some (.slice e)) (he : P.underlying e = some (.int k)) (hc : P.cellsOf e = 1) {B : Nat} (hB : P.bytesOf e = B)
    (h : DataW.Trod enc P W base spare held t (.slice a len cap) d ps) : len * B ≤ 140737488351232 :=
  Go.Proofs.YtnbjnlbaoogbmaaW.PrintWords.sized_ints hsz ht hd hu he hc hB h
end Go.Proofs.Ytnbjnlbaoogbmaa
namespace Go.Proofs.Ytnbjnlbaoogbmaa.Pure
open Go.RowKit Go.Proofs.Ytnbjnlbaoogbmaa.PFnWays Go.Proofs.YtnbjnlbaoogbmaaW.PrintWords Go.Proofs.YtnbjnlbaoogbmaaW.PrintLast Go.Proofs.YtnbjnlbaoogbmaaW.PrintMore Go.Proofs.LG

theorem spec_l6In_eq (a b c : Int) : spec_l6In.f a b c = some (decide (b ≤ a ∧ a ≤ c)) := by
  unfold spec_l6In.f
  by_cases h : a ≥ b
  · rw [if_pos h]; congr 1; rw [decide_eq_decide]; omega
  · rw [if_neg h]; congr 1; symm; rw [decide_eq_false_iff_not]; omega
theorem spec_l1Number_eq (a : Int) : spec_l1Number.f a = some (numB a) := by
  unfold spec_l1Number.f; rw [spec_l6In_eq]; rfl
theorem impl_isNumber_eq (a : Int) : impl_isNumber.f a = some (numB a) := by
  unfold impl_isNumber.f numB
  by_cases h : a ≥ -5000
  · rw [if_pos h]; congr 1; rw [decide_eq_decide]; omega
  · rw [if_neg h]; congr 1; symm; rw [decide_eq_false_iff_not]; omega
theorem spec_PrimeIs_l0 {n : Int} (h2 : 2 ≤ n) (hn : n ≤ 5000) : ∀ (d : Nat) (x : Int), 2 ≤ x → x ≤ n → n - x ≤ d → (∀ y, 2 ≤ y → y < x → ¬ y ∣ n) → Ev (fun k => spec_PrimeIs.l0 k n x) (prB n) := by
  intro d
  induction d with
  | zero =>
    intro x hx hxn hd h
    have := sq_gt hx (show n ≤ x by omega)
    have hb := mul_bd (show 0 ≤ x by omega) (show x ≤ 5000 by omega) (show 0 ≤ x by omega) (show x ≤ 5000 by omega)
    refine Ev.step (f := fun _ => some true) (fun k => ?_) ?_
    · rw [spec_PrimeIs.l0, w64 (by omega) (by omega), if_neg (by omega)]
    · rw [prB_true.2 ⟨pr_of_none h2 x (by omega) (by omega) h, hn⟩]; exact Ev.now _
  | succ d ih =>
    intro x hx hxn hd h
    have hb := mul_bd (show 0 ≤ x by omega) (show x ≤ 5000 by omega) (show 0 ≤ x by omega) (show x ≤ 5000 by omega)
    by_cases hle : x * x ≤ n
    · by_cases hdv : x ∣ n
      · have hlt : x < n := by
          have := sq_gt hx (Int.le_refl x); omega
        refine Ev.step (f := fun _ => some false) (fun k => ?_) ?_
        · rw [spec_PrimeIs.l0, w64 (by omega) (by omega), if_pos hle, if_neg (by omega), if_pos (Int.tmod_eq_zero_of_dvd hdv)]
        · rw [prB_false.2 fun hp => hp.1.2 x hx hlt hdv]; exact Ev.now _
      · have hlt : x < n := by
          have := sq_gt hx (Int.le_refl x); omega
        refine Ev.step (f := fun k => spec_PrimeIs.l0 k n (x + 1)) (fun k => ?_) (ih (x + 1) (by omega) (by omega) (by omega) ?_)
        · rw [spec_PrimeIs.l0, w64 (by omega) (by omega), if_pos hle, if_neg (by omega), if_neg (fun e => hdv (Int.dvd_of_tmod_eq_zero e)), w64 (by omega) (by omega)]
        · intro y h1 h2'
          by_cases e : y = x
          · subst e; exact hdv
          · exact h y h1 (by omega)
    · refine Ev.step (f := fun _ => some true) (fun k => ?_) ?_
      · rw [spec_PrimeIs.l0, w64 (by omega) (by omega), if_neg hle]
      · rw [prB_true.2 ⟨pr_of_none h2 x (by omega) (by omega) h, hn⟩]; exact Ev.now _
theorem spec_PrimeIs_ev (n : Int) : Ev (fun k => spec_PrimeIs.f k n) (prB n) := by
  unfold spec_PrimeIs.f
  simp only [spec_l6In_eq, Option.bind_some]
  by_cases h : 2 ≤ n ∧ n ≤ 5000
  · rw [decide_eq_true h]
    simp only [if_true]
    exact spec_PrimeIs_l0 h.1 h.2 (n - 2).toNat 2 (by omega) (by omega) (by omega) fun y h1 h2 => by omega
  · rw [decide_eq_false h]
    rw [prB_false.2 fun hp => h ⟨hp.1.1, hp.2⟩]
    exact Ev.now _
theorem impl_prime_l0 {n : Int} (h2 : 2 ≤ n) (hn : n ≤ 5000) : ∀ (d : Nat) (x : Int), 2 ≤ x → x ≤ n → n - x ≤ d → (∀ y, 2 ≤ y → y < x → ¬ y ∣ n) → Ev (fun k => impl_prime.l0 k n x) (prB n) := by
  intro d
  induction d with
  | zero =>
    intro x hx hxn hd h
    have := sq_gt hx (show n ≤ x by omega)
    have hb := mul_bd (show 0 ≤ x by omega) (show x ≤ 5000 by omega) (show 0 ≤ x by omega) (show x ≤ 5000 by omega)
    refine Ev.step (f := fun _ => some true) (fun k => ?_) ?_
    · rw [impl_prime.l0, w64 (by omega) (by omega), if_neg (by omega), decide_eq_true (by omega)]
    · rw [prB_true.2 ⟨pr_of_none h2 x (by omega) (by omega) h, hn⟩]; exact Ev.now _
  | succ d ih =>
    intro x hx hxn hd h
    have hb := mul_bd (show 0 ≤ x by omega) (show x ≤ 5000 by omega) (show 0 ≤ x by omega) (show x ≤ 5000 by omega)
    by_cases hle : x * x ≤ n
    · by_cases hdv : x ∣ n
      · have hlt : x < n := by
          have := sq_gt hx (Int.le_refl x); omega
        refine Ev.step (f := fun _ => some false) (fun k => ?_) ?_
        · rw [impl_prime.l0, w64 (by omega) (by omega), if_pos hle, if_neg (by omega), if_pos (Int.tmod_eq_zero_of_dvd hdv)]
        · rw [prB_false.2 fun hp => hp.1.2 x hx hlt hdv]; exact Ev.now _
      · have hlt : x < n := by
          have := sq_gt hx (Int.le_refl x); omega
        refine Ev.step (f := fun k => impl_prime.l0 k n (x + 1)) (fun k => ?_) (ih (x + 1) (by omega) (by omega) (by omega) ?_)
        · rw [impl_prime.l0, w64 (by omega) (by omega), if_pos hle, if_neg (by omega), if_neg (fun e => hdv (Int.dvd_of_tmod_eq_zero e)), w64 (by omega) (by omega)]
        · intro y h1 h2'
          by_cases e : y = x
          · subst e; exact hdv
          · exact h y h1 (by omega)
    · refine Ev.step (f := fun _ => some true) (fun k => ?_) ?_
      · rw [impl_prime.l0, w64 (by omega) (by omega), if_neg hle, decide_eq_true (by omega)]
      · rw [prB_true.2 ⟨pr_of_none h2 x (by omega) (by omega) h, hn⟩]; exact Ev.now _
theorem impl_PrimeIs_ev (n : Int) : Ev (fun k => impl_PrimeIs.f k n) (prB n) := by
  unfold impl_PrimeIs.f
  by_cases h5 : n ≤ 5000
  · simp only [if_pos h5]
    refine Ev.bind (a := prB n) ?_ (Ev.now _)
    unfold impl_prime.f
    by_cases h : 2 ≤ n
    · exact impl_prime_l0 h h5 (n - 2).toNat 2 (by omega) (by omega) (by omega) fun y h1 h2 => by omega
    · refine Ev.step (f := fun _ => some false) (fun k => ?_) ?_
      · rw [impl_prime.l0, w64 (by omega) (by omega), if_neg (by omega), decide_eq_false (by omega)]
      · rw [prB_false.2 fun hp => h hp.1.1]; exact Ev.now _
  · simp only [if_neg h5]
    rw [prB_false.2 fun hp => h5 hp.2]
    exact Ev.now _
theorem spec_l1Mod_eq {n m : Int} (h0 : 0 < m) (h1 : m ≤ 1000000000) : spec_l1Mod.f n m = some (n % m) := by
  unfold spec_l1Mod.f; rw [if_neg (by omega), rest_form h0 h1]
theorem impl_rest_eq {n m : Int} (h0 : 0 < m) (h1 : m ≤ 1000000000) : impl_rest.f n m = some (n % m) := by
  unfold impl_rest.f; rw [if_neg (by omega), rest_form h0 h1]
theorem spec_l3Ok_eq (a b : Int) : spec_l3Ok.f a b = some (numB a && numB b && decide (a ≠ 0) && decide (b ≠ 0)) := by
  unfold spec_l3Ok.f
  rw [spec_l1Number_eq, spec_l1Number_eq, Option.bind_some, Option.bind_some]
  by_cases ha : numB a = true
  · rw [if_pos ha, ha]
    by_cases hb : numB b = true
    · rw [if_pos hb, hb]
      by_cases h0 : a = 0
      · rw [if_pos h0]; simp [h0]
      · rw [if_neg h0]; congr 1
        simp [h0, bne, BEq.beq]
    · rw [if_neg hb]; simp [hb]
  · rw [if_neg ha]; simp [ha]
theorem impl_bothNumbers_eq (a b : Int) : impl_bothNumbers.f a b = some (numB a && numB b && decide (a ≠ 0) && decide (b ≠ 0)) := by
  unfold impl_bothNumbers.f
  by_cases h0 : a = 0
  · rw [if_pos h0]; simp [h0]
  · rw [if_neg h0]
    by_cases h1 : b = 0
    · rw [if_pos h1]; simp [h1]
    · rw [if_neg h1, impl_isNumber_eq, impl_isNumber_eq, Option.bind_some, Option.bind_some]
      by_cases ha : numB a = true
      · rw [if_pos ha]; simp [ha, h0, h1]
      · rw [if_neg ha]; simp [ha]
theorem rd_pre (p : List Int) (a : Int) (l : List Int) : rd (p ++ a :: l) (p.length : Int) = a := by
  unfold rd
  rw [Int.toNat_natCast, List.getD_eq_getElem?_getD, List.getElem?_append_right (Nat.le_refl _)]
  simp
theorem set_pre (p : List Int) (a : Int) (l : List Int) (c : Int) : (p ++ a :: l).set ((p.length : Int)).toNat c = p ++ c :: l := by
  rw [Int.toNat_natCast, List.set_append_right _ _ (Nat.le_refl _)]
  simp
theorem spec_l6Open_eq {l : List Int} (h : ∀ x ∈ l, (Lit.int .u8 x).wf = true) : ∃ b, GB b ∧ spec_l6Open.f l = some (b, 0) := by
  unfold spec_l6Open.f
  by_cases h1 : (l.length : Int) > 2000
  · rw [if_pos h1, if_pos (by omega)]
    exact ⟨l.take 2000, ⟨by simp; omega, fun x hx => u8_bd (h x (List.mem_of_mem_take hx))⟩, rfl⟩
  · rw [if_neg h1]
    exact ⟨l, ⟨by omega, fun x hx => u8_bd (h x hx)⟩, rfl⟩
theorem rd_bd {b : List Int} (hb : GB b) (i : Int) : 0 ≤ rd b i ∧ rd b i ≤ 255 := by
  unfold rd
  rw [List.getD_eq_getElem?_getD]
  cases h : b[i.toNat]? with
  | none => simp
  | some x => exact hb.2 x (List.mem_of_getElem? h)
theorem pick_ev {b : List Int} (hb : GB b) {p n : Int} (hp : 0 ≤ p) (hp' : p ≤ 1000) (hn : 1 ≤ n) (hn' : n ≤ 1000) : ∃ v, 0 ≤ v ∧ v < n ∧ Ev (fun k => spec_l6Rd_pick.f k b p n) (v, p + 1) := by
  have hl := hb.1
  have e1 : wrap64 (p + 1) = p + 1 := w64 (by omega) (by omega)
  have e2 : wrap64 (p + 1 - 1) = p := by rw [w64 (by omega) (by omega)]; omega
  unfold spec_l6Rd_pick.f
  simp only [if_neg (show ¬ n < 1 by omega), e1]
  by_cases h0 : b.length = 0
  · refine ⟨0, by omega, by omega, Ev.step (f := fun _ => some (0, p + 1)) (fun k => ?_) (Ev.now _)⟩
    rw [spec_l6Rd_pick.j0, if_pos (by simp [h0])]
  · have hL : ((b.length : Int) == 0) = false := by rw [beq_eq_false_iff_ne]; omega
    rw [hL]
    by_cases h1 : p < (b.length : Int)
    · have hr := rd_bd hb p
      have m := emod_bd (rd b p) (show 0 < n by omega)
      refine ⟨rd b p % n, m.1, m.2, Ev.step (f := fun _ => some (rd b p % n, p + 1)) (fun k => ?_) (Ev.now _)⟩
      rw [spec_l6Rd_pick.j0, if_neg (by simp), e2, if_pos h1, if_pos hp, if_neg (by omega), w64 (x := rd b p) (by omega) (by omega), tm hr.1]
    · have m1 := emod_bd p (show (0 : Int) < b.length by omega)
      have t1 : Int.tmod p (b.length : Int) = p % (b.length : Int) := tm hp
      have e7 : wrap64 (wrap64 (p * 7) + 3) = p * 7 + 3 := by rw [w64 (x := p * 7) (by omega) (by omega), w64 (by omega) (by omega)]
      have t2 : Int.tmod (p * 7 + 3) (b.length : Int) = (p * 7 + 3) % (b.length : Int) := tm (by omega)
      have m2 := emod_bd (p * 7 + 3) (show (0 : Int) < b.length by omega)
      have r1 := rd_bd hb (p % (b.length : Int))
      have r2 := rd_bd hb ((p * 7 + 3) % (b.length : Int))
      have d1 : Int.tdiv p (b.length : Int) = p / (b.length : Int) := Int.tdiv_eq_ediv_of_nonneg hp
      have d2 : 0 ≤ p / (b.length : Int) ∧ p / (b.length : Int) ≤ p := ⟨Int.ediv_nonneg hp (by omega), Int.ediv_le_self _ hp⟩
      have key : ∃ v, 0 ≤ v ∧ v < n ∧ ∀ k, spec_l6Rd_pick.j0 (k + 1) n false b (p + 1) = some (v, p + 1) := by
        generalize hq1 : rd b (p % (b.length : Int)) = q1 at r1
        generalize hq2 : rd b ((p * 7 + 3) % (b.length : Int)) = q2 at r2
        generalize hq3 : p / (b.length : Int) = q3 at d1 d2
        have hx0 : 0 ≤ Go.bits .xor .i64 (q1 * 131 + q2 * 1117 + p * 29 + q3 * 53) ((q1 * 131 + q2 * 1117 + p * 29 + q3 * 53) / 64) := xor_nonneg (by omega) (by omega) (by omega) (by omega)
        refine ⟨_, (emod_bd (Go.bits .xor .i64 (q1 * 131 + q2 * 1117 + p * 29 + q3 * 53) ((q1 * 131 + q2 * 1117 + p * 29 + q3 * 53) / 64)) (show 0 < n by omega)).1, (emod_bd _ (show 0 < n by omega)).2, fun k => ?_⟩
        rw [spec_l6Rd_pick.j0, if_neg (by simp), e2, if_neg h1, if_neg (by omega), t1, if_pos m1.1, if_pos m1.2, e7, t2, if_pos m2.1, if_pos m2.2, if_neg (by omega), hq1, hq2, d1,
          w64 (x := q1) (by omega) (by omega), w64 (x := q2) (by omega) (by omega), w64 (x := q1 * 131) (by omega) (by omega), w64 (x := q2 * 1117) (by omega) (by omega), w64 (x := q1 * 131 + q2 * 1117) (by omega) (by omega),
          w64 (x := p * 29) (by omega) (by omega), w64 (x := q1 * 131 + q2 * 1117 + p * 29) (by omega) (by omega), w64 (x := q3) (by omega) (by omega), w64 (x := q3 * 53) (by omega) (by omega),
          w64 (x := q1 * 131 + q2 * 1117 + p * 29 + q3 * 53) (by omega) (by omega),
          Int.tdiv_eq_ediv_of_nonneg (a := q1 * 131 + q2 * 1117 + p * 29 + q3 * 53) (by omega), w64 (x := (q1 * 131 + q2 * 1117 + p * 29 + q3 * 53) / 64) (by omega) (by omega), tm hx0]
      obtain ⟨v, h2, h3, h4⟩ := key
      exact ⟨v, h2, h3, Ev.step (f := fun _ => some (v, p + 1)) h4 (Ev.now _)⟩
theorem l91Number_ev {b : List Int} (hb : GB b) {p : Int} (hp : 0 ≤ p) (hp' : p ≤ 500) : ∃ n q, DN n ∧ p ≤ q ∧ q ≤ p + 4 ∧ Ev (fun k => spec_l91Number.f k b p) (n, q) := by
  unfold spec_l91Number.f
  obtain ⟨v, a1, a2, a3⟩ := pick_ev hb (p := p) (n := 30) hp (by omega) (by omega) (by omega)
  by_cases h : v = 0
  · obtain ⟨u, b1, b2, b3⟩ := pick_ev hb (p := p + 1) (n := 6) (by omega) (by omega) (by omega) (by omega)
    have key : DN (rd [0, 5000, 5001, (-5001), 4096, 3969] u) := by
      have : u = 0 ∨ u = 1 ∨ u = 2 ∨ u = 3 ∨ u = 4 ∨ u = 5 := by omega
      rcases this with rfl | rfl | rfl | rfl | rfl | rfl <;> simp [DN, rd]
    refine ⟨_, p + 2, key, by omega, by omega, Ev.bind a3 ?_⟩
    simp only [if_pos h, Option.bind_some]
    refine Ev.bind b3 ?_
    simp only [if_pos b1]
    rw [if_pos (by simp; omega), show p + 1 + 1 = p + 2 by omega]
    exact Ev.now _
  · obtain ⟨u, b1, b2, b3⟩ := pick_ev hb (p := p + 1) (n := 40) (by omega) (by omega) (by omega) (by omega)
    obtain ⟨x, c1, c2, c3⟩ := pick_ev hb (p := p + 1 + 1) (n := 3) (by omega) (by omega) (by omega) (by omega)
    obtain ⟨s, d1, d2, d3⟩ := pick_ev hb (p := p + 1 + 1 + 1) (n := 2) (by omega) (by omega) (by omega) (by omega)
    have hux : 0 ≤ u * (1 + x) ∧ u * (1 + x) ≤ 117 := by
      have : x = 0 ∨ x = 1 ∨ x = 2 := by omega
      rcases this with rfl | rfl | rfl <;> omega
    by_cases hs : s = 0
    · refine ⟨-(1 + u * (1 + x)), p + 4, ?_, by omega, by omega, Ev.bind a3 ?_⟩
      · unfold DN; omega
      simp only [if_neg h]
      refine Ev.bind b3 (Ev.bind c3 (Ev.bind d3 ?_))
      simp only [if_pos hs]
      rw [w64 (x := 1 + x) (by omega) (by omega), w64 (x := u * (1 + x)) (by omega) (by omega), w64 (x := 1 + u * (1 + x)) (by omega) (by omega), w64 (x := -(1 + u * (1 + x))) (by omega) (by omega), show p + 1 + 1 + 1 + 1 = p + 4 by omega]
      exact Ev.now _
    · refine ⟨1 + u * (1 + x), p + 4, ?_, by omega, by omega, Ev.bind a3 ?_⟩
      · unfold DN; omega
      simp only [if_neg h]
      refine Ev.bind b3 (Ev.bind c3 (Ev.bind d3 ?_))
      simp only [if_neg hs]
      rw [w64 (x := 1 + x) (by omega) (by omega), w64 (x := u * (1 + x)) (by omega) (by omega), w64 (x := 1 + u * (1 + x)) (by omega) (by omega), show p + 1 + 1 + 1 + 1 = p + 4 by omega]
      exact Ev.now _
theorem l91Prime_ev {b : List Int} (hb : GB b) {p : Int} (hp : 0 ≤ p) (hp' : p ≤ 500) : ∃ n q, DP n ∧ p ≤ q ∧ q ≤ p + 4 ∧ Ev (fun k => spec_l91Prime.f k b p) (n, q) := by
  unfold spec_l91Prime.f
  obtain ⟨v, a1, a2, a3⟩ := pick_ev hb (p := p) (n := 24) hp (by omega) (by omega) (by omega)
  by_cases h : v = 0
  · obtain ⟨u, b1, b2, b3⟩ := pick_ev hb (p := p + 1) (n := 6) (by omega) (by omega) (by omega) (by omega)
    have key : DP (rd [0, 1, 4, (-3), 97, 9] u) := by
      have : u = 0 ∨ u = 1 ∨ u = 2 ∨ u = 3 ∨ u = 4 ∨ u = 5 := by omega
      rcases this with rfl | rfl | rfl | rfl | rfl | rfl <;> simp [DP, rd]
    refine ⟨_, p + 1 + 1, key, by omega, by omega, Ev.bind a3 ?_⟩
    simp only [if_pos h, Option.bind_some]
    refine Ev.bind b3 ?_
    simp only [if_pos b1]
    rw [if_pos (by simp; omega)]
    exact Ev.now _
  · obtain ⟨u, b1, b2, b3⟩ := pick_ev hb (p := p + 1) (n := 8) (by omega) (by omega) (by omega) (by omega)
    have key : DP (rd [2, 3, 5, 7, 11, 13, 3, 2] u) := by
      have : u = 0 ∨ u = 1 ∨ u = 2 ∨ u = 3 ∨ u = 4 ∨ u = 5 ∨ u = 6 ∨ u = 7 := by omega
      rcases this with rfl | rfl | rfl | rfl | rfl | rfl | rfl | rfl <;> simp [DP, rd]
    refine ⟨_, p + 1 + 1, key, by omega, by omega, Ev.bind a3 ?_⟩
    simp only [if_neg h, Option.bind_some]
    refine Ev.bind b3 ?_
    simp only [if_pos b1]
    rw [if_pos (by simp; omega)]
    exact Ev.now _
theorem l91Place_ev {b : List Int} (hb : GB b) {p : Int} (hp : 0 ≤ p) (hp' : p ≤ 400) : ∃ n q, DP n ∧ p ≤ q ∧ q ≤ p + 5 ∧ Ev (fun k => spec_l91Place.f k b p) (n, q) := by
  unfold spec_l91Place.f
  obtain ⟨v, a1, a2, a3⟩ := pick_ev hb (p := p) (n := 5) hp (by omega) (by omega) (by omega)
  by_cases h : v = 0
  · refine ⟨0, p + 1, by simp [DP], by omega, by omega, Ev.bind a3 ?_⟩
    simp only [if_pos h]; exact Ev.now _
  · obtain ⟨n, q, b1, b2, b3, b4⟩ := l91Prime_ev hb (p := p + 1) (by omega) (by omega)
    refine ⟨n, q, b1, by omega, by omega, Ev.bind a3 ?_⟩
    simp only [if_neg h]
    exact Ev.bind b4 (Ev.now _)
theorem l91Pair_ev {b : List Int} (hb : GB b) {p : Int} (hp : 0 ≤ p) (hp' : p ≤ 300) : ∃ m n pl q, DN m ∧ (-320064 ≤ n ∧ n ≤ 320064) ∧ DP pl ∧ p ≤ q ∧ q ≤ p + 16 ∧ Ev (fun k => spec_l91Pair.f k b p) (m, n, pl, q) := by
  unfold spec_l91Pair.f
  obtain ⟨m, q, m1, m2, m3, m4⟩ := l91Number_ev hb hp (by omega)
  obtain ⟨n, r, n1, n2, n3, n4⟩ := l91Number_ev hb (p := q) (by omega) (by omega)
  have mb := m1.bd
  have nb := n1.bd
  obtain ⟨v, a1, a2, a3⟩ := pick_ev hb (p := r) (n := 4) (by omega) (by omega) (by omega) (by omega)
  by_cases h : v = 0
  · obtain ⟨x, b1, b2, b3⟩ := pick_ev hb (p := r + 1) (n := 8) (by omega) (by omega) (by omega) (by omega)
    obtain ⟨pl, s, d1, d2, d3, d4⟩ := l91Place_ev hb (p := r + 1 + 1) (by omega) (by omega)
    have h1 := abs_mul_bd mb.1 mb.2 (show -8 ≤ 1 + x by omega) (show 1 + x ≤ 8 by omega)
    have h2 := abs_mul_bd (show -(5001 * 8) ≤ m * (1 + x) by omega) h1.2 (show -8 ≤ 1 + x by omega) (show 1 + x ≤ 8 by omega)
    refine ⟨m, m * (1 + x) * (1 + x), pl, s, m1, ⟨by omega, by omega⟩, d1, by omega, by omega, Ev.bind m4 (Ev.bind n4 (Ev.bind a3 ?_))⟩
    simp only [if_pos h]
    refine Ev.bind b3 (Ev.bind d4 ?_)
    rw [w64 (x := 1 + x) (by omega) (by omega), w64 (x := m * (1 + x)) (by omega) (by omega), w64 (x := m * (1 + x) * (1 + x)) (by omega) (by omega)]
    exact Ev.now _
  · obtain ⟨pl, s, d1, d2, d3, d4⟩ := l91Place_ev hb (p := r + 1) (by omega) (by omega)
    refine ⟨m, n, pl, s, m1, ⟨by omega, by omega⟩, d1, by omega, by omega, Ev.bind m4 (Ev.bind n4 (Ev.bind a3 ?_))⟩
    simp only [if_neg h]
    exact Ev.bind d4 (Ev.now _)
theorem impl_waysModulo_step {a b p m n x y x14 z : Int} (ha : -5000 ≤ a) (ha' : a ≤ 5000) (hb : -5000 ≤ b) (hb' : b ≤ 5000) (hp : 2 ≤ p) (hm0 : 0 < m) (hm : m ≤ 32) (hx : 0 ≤ x) (hx' : x ≤ 32) (hy : 0 ≤ y) (hy' : y ≤ 32) (hz : 0 ≤ z) (hz' : z < m) (hn : 0 ≤ n) (hn' : n ≤ 1000000000) (k : Nat) :
    impl_waysModulo.l2 (k + 1) a b p m n x y m x14 m y m z = impl_waysModulo.l2 k a b p m (n + if W a b p m x y z = true then 1 else 0) x y m x14 m y m (z + 1) := by
  have b1 := mul_bd hz (show z ≤ 32 by omega) hz (show z ≤ 32 by omega)
  have b2 := abs_mul_bd ha ha' (show -32 ≤ x by omega) hx'
  have b3 := abs_mul_bd b2.1 b2.2 (show -32 ≤ x by omega) hx'
  have b4 := abs_mul_bd hb hb' (show -32 ≤ y by omega) hy'
  have b5 := abs_mul_bd b4.1 b4.2 (show -32 ≤ y by omega) hy'
  have we : wrap64 (wrap64 (wrap64 (z * z) - wrap64 (wrap64 (a * x) * x)) - wrap64 (wrap64 (b * y) * y)) = z * z - a * x * x - b * y * y := by
    rw [w64 (x := z * z) (by omega) (by omega), w64 (x := a * x) (by omega) (by omega), w64 (x := a * x * x) (by omega) (by omega), w64 (x := b * y) (by omega) (by omega), w64 (x := b * y * y) (by omega) (by omega), w64 (x := z * z - a * x * x) (by omega) (by omega), w64 (by omega) (by omega)]
  have w1 : wrap64 (z + 1) = z + 1 := w64 (by omega) (by omega)
  have w2 : wrap64 (n + 1) = n + 1 := w64 (by omega) (by omega)
  rw [impl_waysModulo.l2, if_pos hz', if_neg (by omega), we, w1, w2, tm hx, tm hy, tm hz, impl_rest_eq hm0 (by omega)]
  simp only [Option.bind_some]
  unfold W
  by_cases h1 : x % p = 0
  · rw [if_pos h1]
    by_cases h2 : y % p = 0
    · rw [if_pos h2]
      by_cases h3 : z % p = 0
      · rw [if_pos h3, if_neg (by simp [h1, h2, h3]), Int.add_zero]
      · rw [if_neg h3]
        by_cases h4 : (z * z - a * x * x - b * y * y) % m = 0
        · rw [if_pos h4, if_pos (by simp [h3, h4])]
        · rw [if_neg h4, if_neg (by simp [h4]), Int.add_zero]
    · rw [if_neg h2]
      by_cases h4 : (z * z - a * x * x - b * y * y) % m = 0
      · rw [if_pos h4, if_pos (by simp [h2, h4])]
      · rw [if_neg h4, if_neg (by simp [h4]), Int.add_zero]
  · rw [if_neg h1]
    by_cases h4 : (z * z - a * x * x - b * y * y) % m = 0
    · rw [if_pos h4, if_pos (by simp [h1, h4])]
    · rw [if_neg h4, if_neg (by simp [h4]), Int.add_zero]
theorem impl_waysModulo_l2 {a b p m x y x14 r : Int} (ha : -5000 ≤ a) (ha' : a ≤ 5000) (hb : -5000 ≤ b) (hb' : b ≤ 5000) (hp : 2 ≤ p) (hm0 : 0 < m) (hm : m ≤ 32) (hx : 0 ≤ x) (hx' : x ≤ 32) (hy : 0 ≤ y) (hy' : y ≤ 32) :
    ∀ (d : Nat) (z n : Int), 0 ≤ z → z + d = m → 0 ≤ n → n + d ≤ 1000000000 → Ev (fun k => impl_waysModulo.l1 k a b p m (n + cntI (fun z => W a b p m x y z) d z) x m x14 m (wrap64 (y + 1))) r → Ev (fun k => impl_waysModulo.l2 k a b p m n x y m x14 m y m z) r := by
  intro d
  induction d with
  | zero =>
    intro z n hz hd hn hn' h
    refine Ev.step (fun k => ?_) h
    rw [impl_waysModulo.l2, if_neg (by omega), cntI, Int.add_zero]
  | succ d ih =>
    intro z n hz hd hn hn' h
    refine Ev.step (fun k => impl_waysModulo_step ha ha' hb hb' hp hm0 hm hx hx' hy hy' hz (by omega) hn (by omega) k) (ih (z + 1) _ (by omega) (by omega) (by split <;> omega) (by split <;> omega) ?_)
    rw [Int.add_assoc]; exact h
theorem impl_waysModulo_l1 {a b p m x r : Int} (ha : -5000 ≤ a) (ha' : a ≤ 5000) (hb : -5000 ≤ b) (hb' : b ≤ 5000) (hp : 2 ≤ p) (hm0 : 0 < m) (hm : m ≤ 32) (hx : 0 ≤ x) (hx' : x ≤ 32) :
    ∀ (d : Nat) (y n : Int), 0 ≤ y → y + d = m → 0 ≤ n → n + 32 * d ≤ 1000000 → Ev (fun k => impl_waysModulo.l0 k a b p m (n + sumI (fun y => cntI (fun z => W a b p m x y z) m.toNat 0) d y) m (wrap64 (x + 1))) r → Ev (fun k => impl_waysModulo.l1 k a b p m n x m x m y) r := by
  intro d
  induction d with
  | zero =>
    intro y n hy hd hn hn' h
    refine Ev.step (fun k => ?_) h
    rw [impl_waysModulo.l1, if_neg (by omega), sumI, Int.add_zero]
  | succ d ih =>
    intro y n hy hd hn hn' h
    have hc := cntI_bd (fun z => W a b p m x y z) m.toNat 0
    refine Ev.step (f := fun k => impl_waysModulo.l2 k a b p m n x y m x m y m 0) (fun k => by rw [impl_waysModulo.l1, if_pos (by omega)]) ?_
    refine impl_waysModulo_l2 ha ha' hb hb' hp hm0 hm hx hx' hy (by omega) m.toNat 0 n (by omega) (by omega) hn (by omega) ?_
    rw [w64 (x := y + 1) (by omega) (by omega)]
    refine ih (y + 1) _ (by omega) (by omega) (by omega) (by omega) ?_
    rw [Int.add_assoc]; exact h
theorem impl_waysModulo_l0 {a b p m : Int} (ha : -5000 ≤ a) (ha' : a ≤ 5000) (hb : -5000 ≤ b) (hb' : b ≤ 5000) (hp : 2 ≤ p) (hm0 : 0 < m) (hm : m ≤ 32) :
    ∀ (d : Nat) (x n : Int), 0 ≤ x → x + d = m → 0 ≤ n → n + 1024 * d ≤ 100000 → Ev (fun k => impl_waysModulo.l0 k a b p m n m x) (n + sumI (fun x => sumI (fun y => cntI (fun z => W a b p m x y z) m.toNat 0) m.toNat 0) d x) := by
  intro d
  induction d with
  | zero =>
    intro x n hx hd hn hn'
    refine Ev.step (f := fun _ => some n) (fun k => ?_) ?_
    · rw [impl_waysModulo.l0, if_neg (by omega)]
    · rw [sumI, Int.add_zero]; exact Ev.now _
  | succ d ih =>
    intro x n hx hd hn hn'
    have hc := sumI_bd (F := fun y => cntI (fun z => W a b p m x y z) m.toNat 0) (B := 32) (fun y => by have := cntI_bd (fun z => W a b p m x y z) m.toNat 0; omega) m.toNat 0
    refine Ev.step (f := fun k => impl_waysModulo.l1 k a b p m n x m x m 0) (fun k => by rw [impl_waysModulo.l0, if_pos (by omega)]) ?_
    refine impl_waysModulo_l1 ha ha' hb hb' hp hm0 hm hx (by omega) m.toNat 0 n (by omega) (by omega) hn (by omega) ?_
    rw [w64 (x := x + 1) (by omega) (by omega)]
    have := ih (x + 1) (n + sumI (fun y => cntI (fun z => W a b p m x y z) m.toNat 0) m.toNat 0) (by omega) (by omega) (by omega) (by omega)
    rw [Int.add_assoc] at this
    exact this
theorem impl_waysModulo_ev {a b p m : Int} (ha : -5000 ≤ a) (ha' : a ≤ 5000) (hb : -5000 ≤ b) (hb' : b ≤ 5000) (hp : 2 ≤ p) (hm0 : 0 < m) (hm : m ≤ 32) : Ev (fun k => impl_waysModulo.f k a b p m) (cways a b p m) := by
  have := impl_waysModulo_l0 ha ha' hb hb' hp hm0 hm m.toNat 0 0 (by omega) (by omega) (by omega) (by omega)
  rw [Int.zero_add] at this
  exact this
theorem impl_SymbolWays_ev (a b p : Int) : Ev (fun k => impl_SymbolWays.f k a b p) (waysOf a b p) := by
  unfold impl_SymbolWays.f waysOf
  simp only [impl_bothNumbers_eq, Option.bind_some]
  by_cases h : (numB a && numB b && decide (a ≠ 0) && decide (b ≠ 0)) = true
  · simp only [if_pos h]
    simp only [Bool.and_eq_true, decide_eq_true_eq] at h
    refine Ev.bind (impl_PrimeIs_ev p) ?_
    by_cases hp : prB p = true
    · simp only [if_pos hp]
      have ha := numB_true.1 h.1.1.1
      have hb := numB_true.1 h.1.1.2
      have hpp := prB_true.1 hp
      have h2 := hpp.1.1
      by_cases h31 : p > 31
      · simp only [if_pos h31]; rw [if_neg (by omega)]; exact Ev.now _
      · simp only [if_neg h31]; rw [if_pos ⟨h.1.2, h.2, h.1.1.1, h.1.1.2, hp, by omega⟩]
        exact Ev.bind (impl_waysModulo_ev ha.1 ha.2 hb.1 hb.2 h2 (by omega) (by omega)) (Ev.now _)
    · simp only [if_neg hp]; rw [if_neg (fun h => hp h.2.2.2.2.1)]; exact Ev.now _
  · simp only [if_neg h]
    rw [if_neg (fun g => h (by simp [g.1, g.2.1, g.2.2.1, g.2.2.2.1]))]; exact Ev.now _
theorem swap_mod {a b m x y z : Int} : (a * x * x + b * y * y - z * z) % m = 0 ↔ (z * z - a * x * x - b * y * y) % m = 0 := by
  have e : a * x * x + b * y * y - z * z = -(z * z - a * x * x - b * y * y) := by omega
  rw [e]
  constructor
  · intro h; exact Int.emod_eq_zero_of_dvd (Int.dvd_neg.1 (Int.dvd_of_emod_eq_zero h))
  · intro h; exact Int.emod_eq_zero_of_dvd (Int.dvd_neg.2 (Int.dvd_of_emod_eq_zero h))
theorem spec_SymbolWays_step {a b p n x y z : Int} (ha : -5000 ≤ a) (ha' : a ≤ 5000) (hb : -5000 ≤ b) (hb' : b ≤ 5000) (hp : 2 ≤ p) (hm : p ≤ 32) (hx : 0 ≤ x) (hx' : x < p) (hy : 0 ≤ y) (hy' : y < p) (hz : 0 ≤ z) (hz' : z < p) (hn : 0 ≤ n) (hn' : n ≤ 1000000000) (k : Nat) :
    spec_SymbolWays.l2 (k + 1) a b p n x y z = spec_SymbolWays.l2 k a b p (n + if W a b p p x y z = true then 1 else 0) x y (z + 1) := by
  have b1 := mul_bd hz (show z ≤ 32 by omega) hz (show z ≤ 32 by omega)
  have b2 := abs_mul_bd ha ha' (show -32 ≤ x by omega) (show x ≤ 32 by omega)
  have b3 := abs_mul_bd b2.1 b2.2 (show -32 ≤ x by omega) (show x ≤ 32 by omega)
  have b4 := abs_mul_bd hb hb' (show -32 ≤ y by omega) (show y ≤ 32 by omega)
  have b5 := abs_mul_bd b4.1 b4.2 (show -32 ≤ y by omega) (show y ≤ 32 by omega)
  have we : wrap64 (wrap64 (wrap64 (wrap64 (a * x) * x) + wrap64 (wrap64 (b * y) * y)) - wrap64 (z * z)) = a * x * x + b * y * y - z * z := by
    rw [w64 (x := z * z) (by omega) (by omega), w64 (x := a * x) (by omega) (by omega), w64 (x := a * x * x) (by omega) (by omega), w64 (x := b * y) (by omega) (by omega), w64 (x := b * y * y) (by omega) (by omega), w64 (x := a * x * x + b * y * y) (by omega) (by omega), w64 (by omega) (by omega)]
  have w1 : wrap64 (z + 1) = z + 1 := w64 (by omega) (by omega)
  have w2 : wrap64 (n + 1) = n + 1 := w64 (by omega) (by omega)
  have w3 : wrap64 (wrap64 (x + y) + z) = x + y + z := by rw [w64 (x := x + y) (by omega) (by omega), w64 (by omega) (by omega)]
  rw [spec_SymbolWays.l2, if_pos hz', we, w1, w2, w3, spec_l1Mod_eq (by omega) (by omega)]
  simp only [Option.bind_some]
  unfold W
  rw [Int.emod_eq_of_lt hx hx', Int.emod_eq_of_lt hy hy', Int.emod_eq_of_lt hz hz']
  by_cases h0 : x + y + z > 0
  · rw [if_pos h0]
    have h3 : (decide (x ≠ 0) || decide (y ≠ 0) || decide (z ≠ 0)) = true := by
      simp only [Bool.or_eq_true, decide_eq_true_eq]; omega
    rw [h3, Bool.true_and]
    by_cases h4 : (a * x * x + b * y * y - z * z) % p = 0
    · rw [if_pos h4, if_pos (decide_eq_true (swap_mod.1 h4))]
    · rw [if_neg h4, if_neg (by rw [decide_eq_true_eq]; exact fun h => h4 (swap_mod.2 h)), Int.add_zero]
  · rw [if_neg h0]
    have h3 : (decide (x ≠ 0) || decide (y ≠ 0) || decide (z ≠ 0)) = false := by
      have e1 : x = 0 := by omega
      have e2 : y = 0 := by omega
      have e3 : z = 0 := by omega
      simp [e1, e2, e3]
    rw [h3, Bool.false_and, if_neg (by simp), Int.add_zero]
theorem spec_SymbolWays_l2 {a b p x y r : Int} (ha : -5000 ≤ a) (ha' : a ≤ 5000) (hb : -5000 ≤ b) (hb' : b ≤ 5000) (hp : 2 ≤ p) (hm : p ≤ 32) (hx : 0 ≤ x) (hx' : x < p) (hy : 0 ≤ y) (hy' : y < p) :
    ∀ (d : Nat) (z n : Int), 0 ≤ z → z + d = p → 0 ≤ n → n + d ≤ 1000000000 → Ev (fun k => spec_SymbolWays.l1 k a b p (n + cntI (fun z => W a b p p x y z) d z) x (wrap64 (y + 1))) r → Ev (fun k => spec_SymbolWays.l2 k a b p n x y z) r := by
  intro d
  induction d with
  | zero =>
    intro z n hz hd hn hn' h
    refine Ev.step (fun k => ?_) h
    rw [spec_SymbolWays.l2, if_neg (by omega), cntI, Int.add_zero]
  | succ d ih =>
    intro z n hz hd hn hn' h
    refine Ev.step (fun k => spec_SymbolWays_step ha ha' hb hb' hp hm hx hx' hy hy' hz (by omega) hn (by omega) k) (ih (z + 1) _ (by omega) (by omega) (by split <;> omega) (by split <;> omega) ?_)
    rw [Int.add_assoc]; exact h
theorem spec_SymbolWays_l1 {a b p x r : Int} (ha : -5000 ≤ a) (ha' : a ≤ 5000) (hb : -5000 ≤ b) (hb' : b ≤ 5000) (hp : 2 ≤ p) (hm : p ≤ 32) (hx : 0 ≤ x) (hx' : x < p) :
    ∀ (d : Nat) (y n : Int), 0 ≤ y → y + d = p → 0 ≤ n → n + 32 * d ≤ 1000000 → Ev (fun k => spec_SymbolWays.l0 k a b p (n + sumI (fun y => cntI (fun z => W a b p p x y z) p.toNat 0) d y) (wrap64 (x + 1))) r → Ev (fun k => spec_SymbolWays.l1 k a b p n x y) r := by
  intro d
  induction d with
  | zero =>
    intro y n hy hd hn hn' h
    refine Ev.step (fun k => ?_) h
    rw [spec_SymbolWays.l1, if_neg (by omega), sumI, Int.add_zero]
  | succ d ih =>
    intro y n hy hd hn hn' h
    have hc := cntI_bd (fun z => W a b p p x y z) p.toNat 0
    refine Ev.step (f := fun k => spec_SymbolWays.l2 k a b p n x y 0) (fun k => by rw [spec_SymbolWays.l1, if_pos (by omega)]) ?_
    refine spec_SymbolWays_l2 ha ha' hb hb' hp hm hx hx' hy (by omega) p.toNat 0 n (by omega) (by omega) hn (by omega) ?_
    rw [w64 (x := y + 1) (by omega) (by omega)]
    refine ih (y + 1) _ (by omega) (by omega) (by omega) (by omega) ?_
    rw [Int.add_assoc]; exact h
theorem spec_SymbolWays_l0 {a b p : Int} (ha : -5000 ≤ a) (ha' : a ≤ 5000) (hb : -5000 ≤ b) (hb' : b ≤ 5000) (hp : 2 ≤ p) (hm : p ≤ 32) :
    ∀ (d : Nat) (x n : Int), 0 ≤ x → x + d = p → 0 ≤ n → n + 1024 * d ≤ 100000 → Ev (fun k => spec_SymbolWays.l0 k a b p n x) (n + sumI (fun x => sumI (fun y => cntI (fun z => W a b p p x y z) p.toNat 0) p.toNat 0) d x) := by
  intro d
  induction d with
  | zero =>
    intro x n hx hd hn hn'
    refine Ev.step (f := fun _ => some n) (fun k => ?_) ?_
    · rw [spec_SymbolWays.l0, if_neg (by omega)]
    · rw [sumI, Int.add_zero]; exact Ev.now _
  | succ d ih =>
    intro x n hx hd hn hn'
    have hc := sumI_bd (F := fun y => cntI (fun z => W a b p p x y z) p.toNat 0) (B := 32) (fun y => by have := cntI_bd (fun z => W a b p p x y z) p.toNat 0; omega) p.toNat 0
    refine Ev.step (f := fun k => spec_SymbolWays.l1 k a b p n x 0) (fun k => by rw [spec_SymbolWays.l0, if_pos (by omega)]) ?_
    refine spec_SymbolWays_l1 ha ha' hb hb' hp hm hx (by omega) p.toNat 0 n (by omega) (by omega) hn (by omega) ?_
    rw [w64 (x := x + 1) (by omega) (by omega)]
    have := ih (x + 1) (n + sumI (fun y => cntI (fun z => W a b p p x y z) p.toNat 0) p.toNat 0) (by omega) (by omega) (by omega) (by omega)
    rw [Int.add_assoc] at this
    exact this
theorem spec_SymbolWays_no (a b p : Int) : Ev (fun k => spec_SymbolWays.j0 k a b p true) (-1) := by
  refine Ev.step (f := fun _ => some (-1)) (fun k => ?_) (Ev.now _)
  rw [spec_SymbolWays.j0, if_pos rfl]
theorem spec_SymbolWays_ev (a b p : Int) : Ev (fun k => spec_SymbolWays.f k a b p) (waysOf a b p) := by
  unfold spec_SymbolWays.f waysOf
  simp only [spec_l3Ok_eq, Option.bind_some]
  by_cases h : (numB a && numB b && decide (a ≠ 0) && decide (b ≠ 0)) = true
  · simp only [if_pos h]
    simp only [Bool.and_eq_true, decide_eq_true_eq] at h
    refine Ev.bind (spec_PrimeIs_ev p) ?_
    by_cases hp : prB p = true
    · simp only [if_pos hp]
      have ha := numB_true.1 h.1.1.1
      have hb := numB_true.1 h.1.1.2
      have hpp := prB_true.1 hp
      have h2 := hpp.1.1
      by_cases h31 : p > 31
      · rw [decide_eq_true h31, if_neg (by omega)]; exact spec_SymbolWays_no ..
      · rw [decide_eq_false h31, if_pos ⟨h.1.2, h.2, h.1.1.1, h.1.1.2, hp, by omega⟩]
        refine Ev.step (fun k => by rw [spec_SymbolWays.j0, if_neg (by simp)]) ?_
        have := spec_SymbolWays_l0 ha.1 ha.2 hb.1 hb.2 h2 (by omega) p.toNat 0 0 (by omega) (by omega) (by omega) (by omega)
        rw [Int.zero_add] at this
        exact this
    · simp only [if_neg hp]; rw [if_neg (fun h => hp h.2.2.2.2.1)]; exact spec_SymbolWays_no ..
  · simp only [if_neg h]
    rw [if_neg (fun g => h (by simp [g.1, g.2.1, g.2.2.1, g.2.2.2.1]))]; exact spec_SymbolWays_no ..
theorem DrawSymbolWays_ev {l : List Int} (h : ∀ x ∈ l, (Lit.int .u8 x).wf = true) : ∃ a b p, DN a ∧ (-320064 ≤ b ∧ b ≤ 320064) ∧ (p = 2 ∨ p = 3 ∨ p = 5 ∨ p = 7 ∨ p = 11 ∨ p = 4 ∨ p = 37) ∧ Ev (fun k => spec_DrawSymbolWays.f k l) (a, b, p) := by
  obtain ⟨bs, hb, e⟩ := spec_l6Open_eq h
  unfold spec_DrawSymbolWays.f
  simp only [e, Option.bind_some]
  obtain ⟨a, b, p, q, a1, a2, a3, a4, a5, a6⟩ := l91Pair_ev hb (p := 0) (by omega) (by omega)
  obtain ⟨u, b1, b2, b3⟩ := pick_ev hb (p := q) (n := 7) (by omega) (by omega) (by omega) (by omega)
  have key : rd [2, 3, 5, 7, 11, 4, 37] u = 2 ∨ rd [2, 3, 5, 7, 11, 4, 37] u = 3 ∨ rd [2, 3, 5, 7, 11, 4, 37] u = 5 ∨ rd [2, 3, 5, 7, 11, 4, 37] u = 7 ∨ rd [2, 3, 5, 7, 11, 4, 37] u = 11 ∨ rd [2, 3, 5, 7, 11, 4, 37] u = 4 ∨ rd [2, 3, 5, 7, 11, 4, 37] u = 37 := by
    have : u = 0 ∨ u = 1 ∨ u = 2 ∨ u = 3 ∨ u = 4 ∨ u = 5 ∨ u = 6 := by omega
    rcases this with rfl | rfl | rfl | rfl | rfl | rfl | rfl <;> decide
  refine ⟨a, b, _, a1, a2, key, Ev.bind a6 (Ev.bind b3 ?_)⟩
  simp only [if_pos b1]
  rw [if_pos (by simp; omega)]
  exact Ev.now _
theorem FnWays_fin {a b p v : Int} (hp0 : p ≠ 0) (hp : p * p ≤ 5000) (hpp : 0 ≤ p * p) (h2 : p = 2 → v ≥ 1) (hodd : p ≠ 2 → (Int.tmod a p = 0 ↔ Int.tmod b p = 0) → v = p * p - 1) : Ev (fun k => laws_FnWays.j0 k a b p v v false) true := by
  have hw : wrap64 (wrap64 (p * p) - 1) = p * p - 1 := by rw [w64 (x := p * p) (by omega) (by omega), w64 (by omega) (by omega)]
  refine Ev.step (f := fun _ => some true) (fun k => ?_) (Ev.now _)
  rw [laws_FnWays.j0, if_neg (by simp), if_neg hp0, hw]
  by_cases e2 : p = 2
  · have := h2 e2
    simp only [if_pos e2, if_pos this]
    split <;> split <;> rfl
  · simp only [if_neg e2]
    by_cases h1 : Int.tmod a p = 0
    · by_cases h3 : Int.tmod b p = 0
      · have := hodd e2 ⟨fun _ => h3, fun _ => h1⟩
        rw [if_pos h1, if_pos h3, if_neg (by decide), this, beq_self_eq_true]
      · rw [if_pos h1, if_neg h3, if_pos (by decide)]
    · by_cases h3 : Int.tmod b p = 0
      · rw [if_neg h1, if_pos h3, if_pos (by decide)]
      · have := hodd e2 ⟨fun h => absurd h h1, fun h => absurd h h3⟩
        rw [if_neg h1, if_neg h3, if_neg (by decide), this, beq_self_eq_true]
theorem FnWays : laws_FnWays.Pure := by
  intro l _ _ hl
  refine Ev.rounds ?_
  unfold laws_FnWays.f
  by_cases hlen : (l.length : Int) > 1048576
  · simp only [if_pos hlen]; exact Ev.now _
  · simp only [if_neg hlen]
    obtain ⟨a, b, p, da, db, dp, hev⟩ := DrawSymbolWays_ev hl
    refine Ev.bind hev (Ev.bind (impl_SymbolWays_ev a b p) (Ev.bind (spec_SymbolWays_ev a b p) ?_))
    simp only [if_true]
    by_cases hc : a ≠ 0 ∧ b ≠ 0 ∧ numB a = true ∧ numB b = true ∧ prB p = true ∧ p ≤ 31
    · have hv : waysOf a b p = cways a b p p := by unfold waysOf; rw [if_pos hc]
      have hpr := prB_true.1 hc.2.2.2.2.1
      have h4 : p ≠ 4 := fun e => not_pr (p := 4) (d := 2) (by omega) (by omega) (by decide) (e ▸ hpr.1)
      have hbd := ways_bd (a := a) (b := b) (p := p) (m := p) (by omega) (by omega)
      rw [hv, decide_eq_false (by omega)]
      have md : ∀ q : Nat, 0 < q → wayC q = true → p = q → (Int.tmod a p = 0 ↔ Int.tmod b p = 0) → cways a b p p = p * p - 1 := by
        intro q hq hw e hab
        subst e
        exact ways_of hq hw (by rw [← tm_zero, ← tm_zero]; exact hab)
      have : p = 2 ∨ p = 3 ∨ p = 5 ∨ p = 7 ∨ p = 11 := by omega
      rcases this with rfl | rfl | rfl | rfl | rfl
      · exact FnWays_fin (by omega) (by omega) (by omega) (fun _ => ways_two a b) (fun h => absurd rfl h)
      · exact FnWays_fin (by omega) (by omega) (by omega) (fun h => by omega) (fun _ => md 3 (by omega) ways_3 rfl)
      · exact FnWays_fin (by omega) (by omega) (by omega) (fun h => by omega) (fun _ => md 5 (by omega) ways_5 rfl)
      · exact FnWays_fin (by omega) (by omega) (by omega) (fun h => by omega) (fun _ => md 7 (by omega) ways_7 rfl)
      · exact FnWays_fin (by omega) (by omega) (by omega) (fun h => by omega) (fun _ => md 11 (by omega) ways_11 rfl)
    · have hv : waysOf a b p = -1 := by unfold waysOf; rw [if_neg hc]
      rw [hv]
      refine Ev.step (f := fun _ => some true) (fun k => ?_) (Ev.now _)
      rw [laws_FnWays.j0, if_pos (by simp), beq_self_eq_true]

end Go.Proofs.Ytnbjnlbaoogbmaa.Pure
