/- At every draw the program's PowerMod is the reference's, lies below the modulus, and the next power is the power times the number.
No condition beyond the given statement. The printed functions are tied to plain arithmetic one by one; the law follows at the end. -/
import Derived.Test.YtmepbogcfkecnaaWSized
import Derived.Test.YtmepbogcfkecnaaPFnPowerModx2
import Derived.Test.YtmepbogcfkecnaaM6
set_option linter.unusedVariables false
set_option linter.unusedSimpArgs false
namespace Go.Proofs.Ytmepbogcfkecnaa
open Go.ChangeShapes Go.WideShapes
/-- The words' lemma on the length of a slice, under the name by which the row of this law calls it. -/
theorem PrintWords.sized_ints {H : Type} {enc : TypeId × Value → H} {P : Program} {W : World} {base : Nat} {spare : Nat → Bool} {held : Bool} {t e : TypeId} {k : IntKind} {a : Option Addr} {len cap : Nat} {d : DataW H} {ps : List MemPlace} {ts : List TypeId} {ds : List (DataW H)} {j : Nat}
    (hsz : (DataW.weightsEach P ts ds).all (· ≤ reachBytes) = true) (ht : ts[j]? = some t) (hd : ds[j]? = some d) (hu : P.underlying t = some (.slice e)) (he : P.underlying e = some (.int k)) (hc : P.cellsOf e = 1) {B : Nat} (hB : P.bytesOf e = B)
    (h : DataW.Trod enc P W base spare held t (.slice a len cap) d ps) : len * B ≤ 140737488351232 :=
  Go.Proofs.YtmepbogcfkecnaaW.PrintWords.sized_ints hsz ht hd hu he hc hB h
end Go.Proofs.Ytmepbogcfkecnaa
namespace Go.Proofs.Ytmepbogcfkecnaa.Pure
open Go.RowKit Go.Proofs.Ytmepbogcfkecnaa.PFnPowerMod Go.Proofs.YtmepbogcfkecnaaW.PrintWords Go.Proofs.YtmepbogcfkecnaaW.PrintLast Go.Proofs.YtmepbogcfkecnaaW.PrintMore Go.Proofs.LG

theorem spec_l6In_eq (a b c : Int) : spec_l6In.f a b c = some (decide (b ≤ a ∧ a ≤ c)) := by
  unfold spec_l6In.f
  by_cases h : a ≥ b
  · rw [if_pos h]; congr 1; rw [decide_eq_decide]; omega
  · rw [if_neg h]; congr 1; symm; rw [decide_eq_false_iff_not]; omega
theorem spec_l1Number_eq (a : Int) : spec_l1Number.f a = some (numB a) := by
  unfold spec_l1Number.f; rw [spec_l6In_eq]; rfl
theorem impl_isNumber_eq (a : Int) : impl_isNumber.f a = some (numB a) := by
  unfold impl_isNumber.f numB
  by_cases h : a ≥ -5000
  · rw [if_pos h]; congr 1; rw [decide_eq_decide]; omega
  · rw [if_neg h]; congr 1; symm; rw [decide_eq_false_iff_not]; omega
theorem spec_l1Mod_eq {n m : Int} (h0 : 0 < m) (h1 : m ≤ 1000000000) : spec_l1Mod.f n m = some (n % m) := by
  unfold spec_l1Mod.f; rw [if_neg (by omega), rest_form h0 h1]
theorem impl_rest_eq {n m : Int} (h0 : 0 < m) (h1 : m ≤ 1000000000) : impl_rest.f n m = some (n % m) := by
  unfold impl_rest.f; rw [if_neg (by omega), rest_form h0 h1]
theorem spec_l1Power_l0 {m : Int} (hm : 1 ≤ m) (hm' : m ≤ 5000) : ∀ (f : Nat) (b e o : Int), 0 ≤ e → e ≤ f → e ≤ 1000000000 → 0 ≤ b → b < m → 0 ≤ o → o < m → Ev (fun k => spec_l1Power.l0 k b e m o) (o * b ^ e.toNat % m) := by
  intro f
  induction f with
  | zero =>
    intro b e o he hf hE hb hb' ho ho'
    have : e = 0 := by omega
    subst this
    have e1 : o * b ^ (0 : Int).toNat % m = o := by
      show o * b ^ 0 % m = o
      rw [Int.pow_zero, Int.mul_one, Int.emod_eq_of_lt ho ho']
    rw [e1]
    refine Ev.step (f := fun _ => some o) (fun k => ?_) (Ev.now _)
    rw [spec_l1Power.l0, if_neg (by omega)]
  | succ f ih =>
    intro b e o he hf hE hb hb' ho ho'
    by_cases h0 : e = 0
    · subst h0
      have e1 : o * b ^ (0 : Int).toNat % m = o := by
        show o * b ^ 0 % m = o
        rw [Int.pow_zero, Int.mul_one, Int.emod_eq_of_lt ho ho']
      rw [e1]
      refine Ev.step (f := fun _ => some o) (fun k => ?_) (Ev.now _)
      rw [spec_l1Power.l0, if_neg (by omega)]
    · have bb := mul_bd hb (show b ≤ 5000 by omega) hb (show b ≤ 5000 by omega)
      have ob := mul_bd ho (show o ≤ 5000 by omega) hb (show b ≤ 5000 by omega)
      have r1 := emod_bd (b * b) (show 0 < m by omega)
      have r2 := emod_bd (o * b) (show 0 < m by omega)
      have hd : Int.tdiv e 2 = e / 2 := Int.tdiv_eq_ediv_of_nonneg he
      by_cases h1 : e % 2 = 1
      · have := ih (b * b % m) (e / 2) (o * b % m) (by omega) (by omega) (by omega) r1.1 r1.2 r2.1 r2.2
        have e1 : o * b % m * (b * b % m) ^ (e / 2).toNat % m = o * b ^ e.toNat % m := by
          have ee : e.toNat = 2 * (e / 2).toNat + 1 := by omega
          rw [Int.mul_emod, Int.emod_emod, emod_pow, ← Int.mul_emod, ee, Int.pow_succ, Int.pow_mul, pow_two']
          congr 1; grind
        rw [e1] at this
        refine Ev.step (fun k => ?_) this
        rw [spec_l1Power.l0, if_pos (by omega), tm he, if_pos h1, if_neg (by omega), w64 (x := b * b) (by omega) (by omega), tm bb.1, hd, w64 (x := e / 2) (by omega) (by omega), w64 (x := o * b) (by omega) (by omega), tm ob.1]
      · have := ih (b * b % m) (e / 2) o (by omega) (by omega) (by omega) r1.1 r1.2 ho ho'
        have e1 : o * (b * b % m) ^ (e / 2).toNat % m = o * b ^ e.toNat % m := by
          have ee : e.toNat = 2 * (e / 2).toNat := by omega
          rw [Int.mul_emod, emod_pow, ← Int.mul_emod, ee, Int.pow_mul, pow_two']
        rw [e1] at this
        refine Ev.step (fun k => ?_) this
        rw [spec_l1Power.l0, if_pos (by omega), tm he, if_neg h1, if_neg (by omega), w64 (x := b * b) (by omega) (by omega), tm bb.1, hd, w64 (x := e / 2) (by omega) (by omega)]
theorem spec_l1Power_ev {n e m : Int} (he : 0 ≤ e) (he' : e ≤ 1000000000) (hm : 1 ≤ m) (hm' : m ≤ 5000) : Ev (fun k => spec_l1Power.f k n e m) (n ^ e.toNat % m) := by
  unfold spec_l1Power.f
  simp only [if_neg (show ¬ m = 0 by omega), spec_l1Mod_eq (n := n) (show 0 < m by omega) (by omega), Option.bind_some]
  have r1 := emod_bd n (show 0 < m by omega)
  have r2 := emod_bd 1 (show 0 < m by omega)
  have := spec_l1Power_l0 hm hm' e.toNat (n % m) e (1 % m) he (by omega) he' r1.1 r1.2 r2.1 r2.2
  have e1 : 1 % m * (n % m) ^ e.toNat % m = n ^ e.toNat % m := by
    rw [Int.mul_emod, Int.emod_emod, emod_pow, ← Int.mul_emod, Int.one_mul]
  rw [e1] at this
  exact this
theorem spec_PowerMod_ev (n e m : Int) : Ev (fun k => spec_PowerMod.f k n e m) (powOf n e m) := by
  unfold spec_PowerMod.f powOf
  simp only [spec_l1Number_eq, spec_l6In_eq, Option.bind_some]
  by_cases h : numB n = true
  · simp only [if_pos h]
    by_cases he : 0 ≤ e ∧ e ≤ 5000
    · simp only [decide_eq_true he, if_true]
      by_cases hm : 1 ≤ m ∧ m ≤ 5000
      · simp only [decide_eq_true hm, if_true]
        rw [if_pos ⟨h, he.1, he.2, hm⟩]
        exact Ev.bind (spec_l1Power_ev he.1 (by omega) hm.1 hm.2) (Ev.now _)
      · simp only [decide_eq_false hm]
        rw [if_neg (fun h' => hm h'.2.2.2)]; exact Ev.now _
    · simp only [decide_eq_false he]
      rw [if_neg (fun h' => he ⟨h'.2.1, h'.2.2.1⟩)]; exact Ev.now _
  · simp only [if_neg h]
    rw [if_neg (fun h' => h h'.1)]; exact Ev.now _
theorem impl_PowerMod_l0 {n m E : Int} (hm : 1 ≤ m) (hm' : m ≤ 5000) (hE : E ≤ 5000) : ∀ (d : Nat) (o i : Int), 0 ≤ i → i + d = E → o = n ^ i.toNat % m → Ev (fun k => impl_PowerMod.l0 k n m o E i) (n ^ E.toNat % m, true) := by
  intro d
  induction d with
  | zero =>
    intro o i hi hd ho
    have : i = E := by omega
    subst this
    refine Ev.step (f := fun _ => some (o, true)) (fun k => ?_) ?_
    · rw [impl_PowerMod.l0, if_neg (by omega)]
    · rw [ho]; exact Ev.now _
  | succ d ih =>
    intro o i hi hd ho
    have r1 := emod_bd (n ^ i.toNat) (show 0 < m by omega)
    have r2 := emod_bd n (show 0 < m by omega)
    have bd := mul_bd (show 0 ≤ o by omega) (show o ≤ 5000 by omega) r2.1 (show n % m ≤ 5000 by omega)
    refine Ev.step (fun k => ?_) (ih (o * (n % m) % m) (i + 1) (by omega) (by omega) ?_)
    · rw [impl_PowerMod.l0, if_pos (by omega), impl_rest_eq (by omega) (by omega), Option.bind_some, if_neg (by omega), w64 (x := o * (n % m)) (by omega) (by omega), tm bd.1, w64 (by omega) (by omega)]
    · have ee : (i + 1).toNat = i.toNat + 1 := by omega
      rw [ee]; exact power_step n o m i.toNat ho
theorem impl_PowerMod_no (n e m : Int) : Ev (fun k => impl_PowerMod.j0 k n e m true) (0, false) := by
  refine Ev.step (f := fun _ => some (0, false)) (fun k => ?_) (Ev.now _)
  rw [impl_PowerMod.j0, if_pos rfl]
theorem impl_PowerMod_ev (n e m : Int) : Ev (fun k => impl_PowerMod.f k n e m) (powOf n e m) := by
  unfold impl_PowerMod.f powOf
  simp only [impl_isNumber_eq, Option.bind_some]
  by_cases h : numB n = true
  · simp only [if_pos h]
    by_cases he : e < 0
    · simp only [if_pos he]; rw [if_neg (by omega)]; exact impl_PowerMod_no ..
    · simp only [if_neg he]
      by_cases he' : e > 5000
      · simp only [if_pos he']; rw [if_neg (by omega)]; exact impl_PowerMod_no ..
      · simp only [if_neg he']
        by_cases hm : m < 1
        · simp only [if_pos hm]; rw [if_neg (by omega)]; exact impl_PowerMod_no ..
        · simp only [if_neg hm]
          by_cases hm' : m > 5000
          · rw [decide_eq_true hm', if_neg (by omega)]; exact impl_PowerMod_no ..
          · rw [decide_eq_false hm', if_pos ⟨h, by omega, by omega, by omega, by omega⟩]
            refine Ev.step (f := fun k => impl_PowerMod.l0 k n m (1 % m) e 0) (fun k => ?_) (impl_PowerMod_l0 (by omega) (by omega) (by omega) e.toNat _ 0 (by omega) (by omega) ?_)
            · rw [impl_PowerMod.j0, if_neg (by simp), if_neg (by omega)]
            · show 1 % m = n ^ 0 % m
              rw [Int.pow_zero]
  · simp only [if_neg h]; rw [if_neg (fun h' => h h'.1)]; exact impl_PowerMod_no ..
theorem rd_pre (p : List Int) (a : Int) (l : List Int) : rd (p ++ a :: l) (p.length : Int) = a := by
  unfold rd
  rw [Int.toNat_natCast, List.getD_eq_getElem?_getD, List.getElem?_append_right (Nat.le_refl _)]
  simp
theorem set_pre (p : List Int) (a : Int) (l : List Int) (c : Int) : (p ++ a :: l).set ((p.length : Int)).toNat c = p ++ c :: l := by
  rw [Int.toNat_natCast, List.set_append_right _ _ (Nat.le_refl _)]
  simp
theorem spec_l6Open_eq {l : List Int} (h : ∀ x ∈ l, (Lit.int .u8 x).wf = true) : ∃ b, GB b ∧ spec_l6Open.f l = some (b, 0) := by
  unfold spec_l6Open.f
  by_cases h1 : (l.length : Int) > 2000
  · rw [if_pos h1, if_pos (by omega)]
    exact ⟨l.take 2000, ⟨by simp; omega, fun x hx => u8_bd (h x (List.mem_of_mem_take hx))⟩, rfl⟩
  · rw [if_neg h1]
    exact ⟨l, ⟨by omega, fun x hx => u8_bd (h x hx)⟩, rfl⟩
theorem rd_bd {b : List Int} (hb : GB b) (i : Int) : 0 ≤ rd b i ∧ rd b i ≤ 255 := by
  unfold rd
  rw [List.getD_eq_getElem?_getD]
  cases h : b[i.toNat]? with
  | none => simp
  | some x => exact hb.2 x (List.mem_of_getElem? h)
theorem pick_ev {b : List Int} (hb : GB b) {p n : Int} (hp : 0 ≤ p) (hp' : p ≤ 1000) (hn : 1 ≤ n) (hn' : n ≤ 1000) : ∃ v, 0 ≤ v ∧ v < n ∧ Ev (fun k => spec_l6Rd_pick.f k b p n) (v, p + 1) := by
  have hl := hb.1
  have e1 : wrap64 (p + 1) = p + 1 := w64 (by omega) (by omega)
  have e2 : wrap64 (p + 1 - 1) = p := by rw [w64 (by omega) (by omega)]; omega
  unfold spec_l6Rd_pick.f
  simp only [if_neg (show ¬ n < 1 by omega), e1]
  by_cases h0 : b.length = 0
  · refine ⟨0, by omega, by omega, Ev.step (f := fun _ => some (0, p + 1)) (fun k => ?_) (Ev.now _)⟩
    rw [spec_l6Rd_pick.j0, if_pos (by simp [h0])]
  · have hL : ((b.length : Int) == 0) = false := by rw [beq_eq_false_iff_ne]; omega
    rw [hL]
    by_cases h1 : p < (b.length : Int)
    · have hr := rd_bd hb p
      have m := emod_bd (rd b p) (show 0 < n by omega)
      refine ⟨rd b p % n, m.1, m.2, Ev.step (f := fun _ => some (rd b p % n, p + 1)) (fun k => ?_) (Ev.now _)⟩
      rw [spec_l6Rd_pick.j0, if_neg (by simp), e2, if_pos h1, if_pos hp, if_neg (by omega), w64 (x := rd b p) (by omega) (by omega), tm hr.1]
    · have m1 := emod_bd p (show (0 : Int) < b.length by omega)
      have t1 : Int.tmod p (b.length : Int) = p % (b.length : Int) := tm hp
      have e7 : wrap64 (wrap64 (p * 7) + 3) = p * 7 + 3 := by rw [w64 (x := p * 7) (by omega) (by omega), w64 (by omega) (by omega)]
      have t2 : Int.tmod (p * 7 + 3) (b.length : Int) = (p * 7 + 3) % (b.length : Int) := tm (by omega)
      have m2 := emod_bd (p * 7 + 3) (show (0 : Int) < b.length by omega)
      have r1 := rd_bd hb (p % (b.length : Int))
      have r2 := rd_bd hb ((p * 7 + 3) % (b.length : Int))
      have d1 : Int.tdiv p (b.length : Int) = p / (b.length : Int) := Int.tdiv_eq_ediv_of_nonneg hp
      have d2 : 0 ≤ p / (b.length : Int) ∧ p / (b.length : Int) ≤ p := ⟨Int.ediv_nonneg hp (by omega), Int.ediv_le_self _ hp⟩
      have key : ∃ v, 0 ≤ v ∧ v < n ∧ ∀ k, spec_l6Rd_pick.j0 (k + 1) n false b (p + 1) = some (v, p + 1) := by
        generalize hq1 : rd b (p % (b.length : Int)) = q1 at r1
        generalize hq2 : rd b ((p * 7 + 3) % (b.length : Int)) = q2 at r2
        generalize hq3 : p / (b.length : Int) = q3 at d1 d2
        have hx0 : 0 ≤ Go.bits .xor .i64 (q1 * 131 + q2 * 1117 + p * 29 + q3 * 53) ((q1 * 131 + q2 * 1117 + p * 29 + q3 * 53) / 64) := xor_nonneg (by omega) (by omega) (by omega) (by omega)
        refine ⟨_, (emod_bd (Go.bits .xor .i64 (q1 * 131 + q2 * 1117 + p * 29 + q3 * 53) ((q1 * 131 + q2 * 1117 + p * 29 + q3 * 53) / 64)) (show 0 < n by omega)).1, (emod_bd _ (show 0 < n by omega)).2, fun k => ?_⟩
        rw [spec_l6Rd_pick.j0, if_neg (by simp), e2, if_neg h1, if_neg (by omega), t1, if_pos m1.1, if_pos m1.2, e7, t2, if_pos m2.1, if_pos m2.2, if_neg (by omega), hq1, hq2, d1,
          w64 (x := q1) (by omega) (by omega), w64 (x := q2) (by omega) (by omega), w64 (x := q1 * 131) (by omega) (by omega), w64 (x := q2 * 1117) (by omega) (by omega), w64 (x := q1 * 131 + q2 * 1117) (by omega) (by omega),
          w64 (x := p * 29) (by omega) (by omega), w64 (x := q1 * 131 + q2 * 1117 + p * 29) (by omega) (by omega), w64 (x := q3) (by omega) (by omega), w64 (x := q3 * 53) (by omega) (by omega),
          w64 (x := q1 * 131 + q2 * 1117 + p * 29 + q3 * 53) (by omega) (by omega),
          Int.tdiv_eq_ediv_of_nonneg (a := q1 * 131 + q2 * 1117 + p * 29 + q3 * 53) (by omega), w64 (x := (q1 * 131 + q2 * 1117 + p * 29 + q3 * 53) / 64) (by omega) (by omega), tm hx0]
      obtain ⟨v, h2, h3, h4⟩ := key
      exact ⟨v, h2, h3, Ev.step (f := fun _ => some (v, p + 1)) h4 (Ev.now _)⟩
theorem l91Number_ev {b : List Int} (hb : GB b) {p : Int} (hp : 0 ≤ p) (hp' : p ≤ 500) : ∃ n q, DN n ∧ p ≤ q ∧ q ≤ p + 4 ∧ Ev (fun k => spec_l91Number.f k b p) (n, q) := by
  unfold spec_l91Number.f
  obtain ⟨v, a1, a2, a3⟩ := pick_ev hb (p := p) (n := 30) hp (by omega) (by omega) (by omega)
  by_cases h : v = 0
  · obtain ⟨u, b1, b2, b3⟩ := pick_ev hb (p := p + 1) (n := 6) (by omega) (by omega) (by omega) (by omega)
    have key : DN (rd [0, 5000, 5001, (-5001), 4096, 3969] u) := by
      have : u = 0 ∨ u = 1 ∨ u = 2 ∨ u = 3 ∨ u = 4 ∨ u = 5 := by omega
      rcases this with rfl | rfl | rfl | rfl | rfl | rfl <;> simp [DN, rd]
    refine ⟨_, p + 2, key, by omega, by omega, Ev.bind a3 ?_⟩
    simp only [if_pos h, Option.bind_some]
    refine Ev.bind b3 ?_
    simp only [if_pos b1]
    rw [if_pos (by simp; omega), show p + 1 + 1 = p + 2 by omega]
    exact Ev.now _
  · obtain ⟨u, b1, b2, b3⟩ := pick_ev hb (p := p + 1) (n := 40) (by omega) (by omega) (by omega) (by omega)
    obtain ⟨x, c1, c2, c3⟩ := pick_ev hb (p := p + 1 + 1) (n := 3) (by omega) (by omega) (by omega) (by omega)
    obtain ⟨s, d1, d2, d3⟩ := pick_ev hb (p := p + 1 + 1 + 1) (n := 2) (by omega) (by omega) (by omega) (by omega)
    have hux : 0 ≤ u * (1 + x) ∧ u * (1 + x) ≤ 117 := by
      have : x = 0 ∨ x = 1 ∨ x = 2 := by omega
      rcases this with rfl | rfl | rfl <;> omega
    by_cases hs : s = 0
    · refine ⟨-(1 + u * (1 + x)), p + 4, ?_, by omega, by omega, Ev.bind a3 ?_⟩
      · unfold DN; omega
      simp only [if_neg h]
      refine Ev.bind b3 (Ev.bind c3 (Ev.bind d3 ?_))
      simp only [if_pos hs]
      rw [w64 (x := 1 + x) (by omega) (by omega), w64 (x := u * (1 + x)) (by omega) (by omega), w64 (x := 1 + u * (1 + x)) (by omega) (by omega), w64 (x := -(1 + u * (1 + x))) (by omega) (by omega), show p + 1 + 1 + 1 + 1 = p + 4 by omega]
      exact Ev.now _
    · refine ⟨1 + u * (1 + x), p + 4, ?_, by omega, by omega, Ev.bind a3 ?_⟩
      · unfold DN; omega
      simp only [if_neg h]
      refine Ev.bind b3 (Ev.bind c3 (Ev.bind d3 ?_))
      simp only [if_neg hs]
      rw [w64 (x := 1 + x) (by omega) (by omega), w64 (x := u * (1 + x)) (by omega) (by omega), w64 (x := 1 + u * (1 + x)) (by omega) (by omega), show p + 1 + 1 + 1 + 1 = p + 4 by omega]
      exact Ev.now _
theorem DrawPowerMod_ev {l : List Int} (h : ∀ x ∈ l, (Lit.int .u8 x).wf = true) : ∃ n e m, DN n ∧ (-41 ≤ e ∧ e ≤ 40) ∧ (-61 ≤ m ∧ m ≤ 6000) ∧ Ev (fun k => spec_DrawPowerMod.f k l) (n, e, m) := by
  obtain ⟨bs, hb, e⟩ := spec_l6Open_eq h
  unfold spec_DrawPowerMod.f
  simp only [e, Option.bind_some]
  obtain ⟨a, q, a1, a2, a3, a4⟩ := l91Number_ev hb (p := 0) (by omega) (by omega)
  obtain ⟨u, b1, b2, b3⟩ := pick_ev hb (p := q) (n := 40) (by omega) (by omega) (by omega) (by omega)
  obtain ⟨v, c1, c2, c3⟩ := pick_ev hb (p := q + 1) (n := 20) (by omega) (by omega) (by omega) (by omega)
  obtain ⟨w, d1, d2, d3⟩ := pick_ev hb (p := q + 1 + 1) (n := 60) (by omega) (by omega) (by omega) (by omega)
  obtain ⟨x, e1, e2, e3⟩ := pick_ev hb (p := q + 1 + 1 + 1) (n := 20) (by omega) (by omega) (by omega) (by omega)
  obtain ⟨y, f1, f2, f3⟩ := pick_ev hb (p := q + 1 + 1 + 1 + 1) (n := 20) (by omega) (by omega) (by omega) (by omega)
  have t1 : Int.tdiv v 19 = v / 19 := Int.tdiv_eq_ediv_of_nonneg c1
  have t2 : Int.tdiv x 19 = x / 19 := Int.tdiv_eq_ediv_of_nonneg e1
  have t3 : Int.tdiv y 19 = y / 19 := Int.tdiv_eq_ediv_of_nonneg f1
  refine ⟨a, u - v / 19 * 41, 1 + w - x / 19 * 61 + y / 19 * 5000, a1, ⟨by omega, by omega⟩, ⟨by omega, by omega⟩, Ev.bind a4 (Ev.bind b3 (Ev.bind c3 (Ev.bind d3 (Ev.bind e3 (Ev.bind f3 ?_)))))⟩
  rw [t1, t2, t3, w64 (x := v / 19) (by omega) (by omega), w64 (x := x / 19) (by omega) (by omega), w64 (x := y / 19) (by omega) (by omega), w64 (x := v / 19 * 41) (by omega) (by omega), w64 (x := x / 19 * 61) (by omega) (by omega), w64 (x := y / 19 * 5000) (by omega) (by omega),
    w64 (x := u - v / 19 * 41) (by omega) (by omega), w64 (x := 1 + w) (by omega) (by omega), w64 (x := 1 + w - x / 19 * 61) (by omega) (by omega), w64 (x := 1 + w - x / 19 * 61 + y / 19 * 5000) (by omega) (by omega)]
  exact Ev.now _
theorem restOf_eq {n m : Int} (h0 : 0 < m) (h1 : m ≤ 1000000000) : laws_restOf.f n m = some (n % m) := by
  unfold laws_restOf.f; rw [if_neg (by omega), rest_form h0 h1]
theorem FnPowerMod : laws_FnPowerMod.Pure := by
  intro l _ _ hl
  refine Ev.rounds ?_
  unfold laws_FnPowerMod.f
  by_cases hlen : (l.length : Int) > 1048576
  · simp only [if_pos hlen]; exact Ev.now _
  · simp only [if_neg hlen]
    obtain ⟨n, e, m, dn, de, dm, hev⟩ := DrawPowerMod_ev hl
    refine Ev.bind hev (Ev.bind (impl_PowerMod_ev n e m) (Ev.bind (spec_PowerMod_ev n e m) ?_))
    simp only [bne_self_eq_false, if_true, Bool.false_eq_true, if_false]
    by_cases hc : numB n = true ∧ 0 ≤ e ∧ e ≤ 5000 ∧ 1 ≤ m ∧ m ≤ 5000
    · have hv : powOf n e m = (n ^ e.toNat % m, true) := by unfold powOf; rw [if_pos hc]
      rw [hv]
      have hr := emod_bd (n ^ e.toNat) (show 0 < m by omega)
      have hn := emod_bd n (show 0 < m by omega)
      have hv2 : powOf n (e + 1) m = (n ^ (e + 1).toNat % m, true) := by unfold powOf; rw [if_pos ⟨hc.1, by omega, by omega, hc.2.2.2⟩]
      have hb := mul_bd hr.1 (show n ^ e.toNat % m ≤ 5000 by omega) hn.1 (show n % m ≤ 5000 by omega)
      have hst := power_step n _ m e.toNat rfl
      have he : (e + 1).toNat = e.toNat + 1 := by omega
      refine Ev.step (fun k => by rw [laws_FnPowerMod.j0, if_neg (by simp)]) ?_
      rw [w64 (x := e + 1) (by omega) (by omega)]
      refine Ev.bind (impl_PowerMod_ev n (e + 1) m) ?_
      rw [hv2]
      simp only [ge_iff_le, if_pos hr.1, if_pos hr.2, if_neg (show ¬ e = 5000 by omega), if_true, restOf_eq (n := n) (show 0 < m by omega) (by omega), Option.bind_some, w64 (x := n ^ e.toNat % m * (n % m)) (by omega) (by omega),
        restOf_eq (n := n ^ e.toNat % m * (n % m)) (show 0 < m by omega) (by omega), he, hst]
      by_cases h0 : e > 0
      · simp only [if_pos h0]; exact Ev.now _
      · have e0 : e = 0 := by omega
        subst e0
        simp only [if_neg h0, if_neg (show ¬ m = 0 by omega)]
        have : (n ^ (0 : Int).toNat % m == 1 % m) = true := by
          show (n ^ 0 % m == 1 % m) = true
          rw [Int.pow_zero, beq_self_eq_true]
        rw [this]; exact Ev.now _
    · have hv : powOf n e m = (0, false) := by unfold powOf; rw [if_neg hc]
      rw [hv]
      refine Ev.step (f := fun _ => some true) (fun k => ?_) (Ev.now _)
      rw [laws_FnPowerMod.j0, if_pos (by simp), if_pos (by simp), beq_self_eq_true]

end Go.Proofs.Ytmepbogcfkecnaa.Pure
