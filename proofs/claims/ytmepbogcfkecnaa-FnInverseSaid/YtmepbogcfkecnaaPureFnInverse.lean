/- At every draw the program's InverseMod is the reference's; where there is an inverse, the two numbers have no divisor in common, and the inverse's inverse is the number's rest.
No condition beyond the given statement. The printed functions are tied to plain arithmetic one by one; the law follows at the end. -/
import Derived.Test.YtmepbogcfkecnaaWSized
import Derived.Test.YtmepbogcfkecnaaPFnInversex2
import Derived.Test.YtmepbogcfkecnaaM6
set_option linter.unusedVariables false
set_option linter.unusedSimpArgs false
namespace Go.Proofs.Ytmepbogcfkecnaa
open Go.ChangeShapes Go.WideShapes
/-- The words' lemma on the length of a slice, under the name by which the row of this law calls it. -/
theorem PrintWords.sized_ints {H : Type} {enc : TypeId × Value → H} {P : Program} {W : World} {base : Nat} {spare : Nat → Bool} {held : Bool} {t e : TypeId} {k : IntKind} {a : Option Addr} {len cap : Nat} {d : DataW H} {ps : List MemPlace} {ts : List TypeId} {ds : List (DataW H)} {j : Nat}
    (hsz : (DataW.weightsEach P ts ds).all (· ≤ reachBytes) = true) (ht : ts[j]? = some t) (hd : ds[j]? = some d) (hu : P.underlying t = some (.slice e)) (he : P.underlying e = some (.int k)) (hc : P.cellsOf e = 1) {B : Nat} (hB : P.bytesOf e = B)
    (h : DataW.Trod enc P W base spare held t (.slice a len cap) d ps) : len * B ≤ 140737488351232 :=
  Go.Proofs.YtmepbogcfkecnaaW.PrintWords.sized_ints hsz ht hd hu he hc hB h
end Go.Proofs.Ytmepbogcfkecnaa
namespace Go.Proofs.Ytmepbogcfkecnaa.Pure
open Go.RowKit Go.Proofs.Ytmepbogcfkecnaa.PFnInverse Go.Proofs.YtmepbogcfkecnaaW.PrintWords Go.Proofs.YtmepbogcfkecnaaW.PrintLast Go.Proofs.YtmepbogcfkecnaaW.PrintMore Go.Proofs.LG

theorem spec_l6In_eq (a b c : Int) : spec_l6In.f a b c = some (decide (b ≤ a ∧ a ≤ c)) := by
  unfold spec_l6In.f
  by_cases h : a ≥ b
  · rw [if_pos h]; congr 1; rw [decide_eq_decide]; omega
  · rw [if_neg h]; congr 1; symm; rw [decide_eq_false_iff_not]; omega
theorem spec_l1Number_eq (a : Int) : spec_l1Number.f a = some (numB a) := by
  unfold spec_l1Number.f; rw [spec_l6In_eq]; rfl
theorem impl_isNumber_eq (a : Int) : impl_isNumber.f a = some (numB a) := by
  unfold impl_isNumber.f numB
  by_cases h : a ≥ -5000
  · rw [if_pos h]; congr 1; rw [decide_eq_decide]; omega
  · rw [if_neg h]; congr 1; symm; rw [decide_eq_false_iff_not]; omega
theorem spec_l1Mod_eq {n m : Int} (h0 : 0 < m) (h1 : m ≤ 1000000000) : spec_l1Mod.f n m = some (n % m) := by
  unfold spec_l1Mod.f; rw [if_neg (by omega), rest_form h0 h1]
theorem impl_rest_eq {n m : Int} (h0 : 0 < m) (h1 : m ≤ 1000000000) : impl_rest.f n m = some (n % m) := by
  unfold impl_rest.f; rw [if_neg (by omega), rest_form h0 h1]
theorem spec_InverseMod_l0 {n m : Int} (hm : 0 < m) (hm' : m ≤ 5000) : ∀ (d : Nat) (x : Int), 0 ≤ x → x + d = m → Ev (fun k => spec_InverseMod.l0 k n m x) (two (srch (fun x => decide (n % m * x % m = 1)) d x)) := by
  intro d
  induction d with
  | zero =>
    intro x h0 hd
    refine Ev.step (f := fun _ => some (0, false)) (fun k => ?_) (Ev.now _)
    rw [spec_InverseMod.l0, if_neg (by omega)]
  | succ d ih =>
    intro x h0 hd
    have hr := emod_bd n hm
    have hb := mul_bd hr.1 (show n % m ≤ 5000 by omega) h0 (show x ≤ 5000 by omega)
    rw [srch]
    by_cases h : n % m * x % m = 1
    · rw [if_pos (decide_eq_true h)]
      refine Ev.step (f := fun _ => some (x, true)) (fun k => ?_) (Ev.now _)
      rw [spec_InverseMod.l0, if_pos (by omega), spec_l1Mod_eq hm (by omega), Option.bind_some, if_neg (by omega), w64 (by omega) (by omega), tm hb.1, if_pos h]
    · rw [if_neg (by simpa using h)]
      refine Ev.step (fun k => ?_) (ih (x + 1) (by omega) (by omega))
      rw [spec_InverseMod.l0, if_pos (by omega), spec_l1Mod_eq hm (by omega), Option.bind_some, if_neg (by omega), w64 (by omega) (by omega), tm hb.1, if_neg h, w64 (by omega) (by omega)]
theorem spec_InverseMod_ev (n m : Int) : Ev (fun k => spec_InverseMod.f k n m) (invOf n m) := by
  unfold spec_InverseMod.f
  simp only [spec_l1Number_eq, spec_l6In_eq, Option.bind_some]
  by_cases h : numB n = true
  · simp only [if_pos h]
    by_cases hm : 2 ≤ m ∧ m ≤ 5000
    · rw [decide_eq_true hm]
      refine Ev.step (f := fun k => spec_InverseMod.l0 k n m 1) (fun k => by rw [spec_InverseMod.j0, if_neg (by simp)]) ?_
      unfold invOf; rw [if_pos ⟨h, hm⟩]
      exact spec_InverseMod_l0 (by omega) hm.2 _ 1 (by omega) (by omega)
    · rw [decide_eq_false hm]
      refine Ev.step (f := fun _ => some (0, false)) (fun k => by rw [spec_InverseMod.j0, if_pos (by simp)]) ?_
      unfold invOf; rw [if_neg (fun h => hm h.2)]
      exact Ev.now _
  · simp only [if_neg h]
    refine Ev.step (f := fun _ => some (0, false)) (fun k => by rw [spec_InverseMod.j0, if_pos (by simp)]) ?_
    unfold invOf; rw [if_neg (fun h' => h h'.1)]
    exact Ev.now _
theorem impl_InverseMod_l0 {n m : Int} (hm : 0 < m) (hm' : m ≤ 5000) : ∀ (d : Nat) (x : Int), 0 ≤ x → x + d = m → Ev (fun k => impl_InverseMod.l0 k n m x) (two (srch (fun x => decide (n % m * x % m = 1)) d x)) := by
  intro d
  induction d with
  | zero =>
    intro x h0 hd
    refine Ev.step (f := fun _ => some (0, false)) (fun k => ?_) (Ev.now _)
    rw [impl_InverseMod.l0, if_neg (by omega)]
  | succ d ih =>
    intro x h0 hd
    have hr := emod_bd n hm
    have hb := mul_bd hr.1 (show n % m ≤ 5000 by omega) h0 (show x ≤ 5000 by omega)
    rw [srch]
    by_cases h : n % m * x % m = 1
    · rw [if_pos (decide_eq_true h)]
      refine Ev.step (f := fun _ => some (x, true)) (fun k => ?_) (Ev.now _)
      rw [impl_InverseMod.l0, if_pos (by omega), impl_rest_eq hm (by omega), Option.bind_some, if_neg (by omega), w64 (by omega) (by omega), tm hb.1, if_pos h]
    · rw [if_neg (by simpa using h)]
      refine Ev.step (fun k => ?_) (ih (x + 1) (by omega) (by omega))
      rw [impl_InverseMod.l0, if_pos (by omega), impl_rest_eq hm (by omega), Option.bind_some, if_neg (by omega), w64 (by omega) (by omega), tm hb.1, if_neg h, w64 (by omega) (by omega)]
theorem impl_InverseMod_ev (n m : Int) : Ev (fun k => impl_InverseMod.f k n m) (invOf n m) := by
  unfold impl_InverseMod.f
  simp only [impl_isNumber_eq, Option.bind_some]
  by_cases h : numB n = true
  · simp only [if_pos h]
    by_cases h2 : m < 2
    · simp only [if_pos h2]
      refine Ev.step (f := fun _ => some (0, false)) (fun k => by rw [impl_InverseMod.j0, if_pos (by simp)]) ?_
      unfold invOf; rw [if_neg (fun h => by omega)]
      exact Ev.now _
    · simp only [if_neg h2]
      by_cases h5 : m > 5000
      · rw [decide_eq_true h5]
        refine Ev.step (f := fun _ => some (0, false)) (fun k => by rw [impl_InverseMod.j0, if_pos (by simp)]) ?_
        unfold invOf; rw [if_neg (fun h => by omega)]
        exact Ev.now _
      · rw [decide_eq_false h5]
        refine Ev.step (f := fun k => impl_InverseMod.l0 k n m 1) (fun k => by rw [impl_InverseMod.j0, if_neg (by simp)]) ?_
        unfold invOf; rw [if_pos ⟨h, by omega, by omega⟩]
        exact impl_InverseMod_l0 (by omega) (by omega) _ 1 (by omega) (by omega)
  · simp only [if_neg h]
    refine Ev.step (f := fun _ => some (0, false)) (fun k => by rw [impl_InverseMod.j0, if_pos (by simp)]) ?_
    unfold invOf; rw [if_neg (fun h' => h h'.1)]
    exact Ev.now _
theorem impl_size_eq {n : Int} (h : -1000000000000 ≤ n) (h' : n ≤ 1000000000000) : impl_size.f n = some (n.natAbs : Int) := by
  unfold impl_size.f mx
  rw [w64 (by omega) (by omega)]
  congr 1
  split <;> omega
theorem impl_gcd_l1 {l : List Int} {L i r : Int} : ∀ (f : Nat) (x y : Int), 0 ≤ x → 0 ≤ y → y < f → Ev (fun k => impl_gcd.l0 k (Int.gcd x y : Int) l L (i + 1)) r → 0 ≤ i → i < 1000000 → Ev (fun k => impl_gcd.l1 k x y l L i) r := by
  intro f
  induction f with
  | zero => intro x y hx hy hf; omega
  | succ f ih =>
    intro x y hx hy hf hr hi hi'
    by_cases h : y = 0
    · subst h
      have e : (Int.gcd x 0 : Int) = x := by rw [Int.gcd_zero]; omega
      rw [e] at hr
      refine Ev.step (fun k => ?_) hr
      rw [impl_gcd.l1, if_pos rfl, w64 (by omega) (by omega)]
    · have r := emod_bd x (show 0 < y by omega)
      rw [gcd_step hx (by omega)] at hr
      refine Ev.step (fun k => ?_) (ih y (x % y) hy r.1 (by omega) hr hi hi')
      rw [impl_gcd.l1, if_neg h, tm hx]
theorem impl_gcd_two {a b : Int} (ha : -5000 ≤ a) (ha' : a ≤ 5000) (hb : -5000 ≤ b) (hb' : b ≤ 5000) : Ev (fun k => impl_gcd.f k [a, b]) (Int.gcd a b : Int) := by
  unfold impl_gcd.f
  refine Ev.step (f := fun k => impl_gcd.l1 k 0 a.natAbs [a, b] 2 0) (fun k => ?_) ?_
  · rw [impl_gcd.l0]
    show (if (0 : Int) < 2 then _ else _) = _
    rw [if_pos (by omega), if_pos (by omega), if_pos (by simp), show rd [a, b] 0 = a from rfl, impl_size_eq (by omega) (by omega), Option.bind_some]
    rfl
  · refine impl_gcd_l1 (a.natAbs + 1) 0 a.natAbs (by omega) (by omega) (by omega) ?_ (by omega) (by omega)
    have e : (Int.gcd 0 (a.natAbs : Int) : Int) = a.natAbs := by rw [Int.zero_gcd]; omega
    rw [e]
    refine Ev.step (f := fun k => impl_gcd.l1 k a.natAbs b.natAbs [a, b] 2 1) (fun k => ?_) ?_
    · rw [impl_gcd.l0, if_pos (by omega), if_pos (by omega), if_pos (by simp), show rd [a, b] (0 + 1) = b from rfl, impl_size_eq (by omega) (by omega), Option.bind_some]
      rfl
    · refine impl_gcd_l1 (b.natAbs + 1) a.natAbs b.natAbs (by omega) (by omega) (by omega) ?_ (by omega) (by omega)
      rw [Int.gcd_natCast_natCast]
      refine Ev.step (f := fun _ => some (Int.gcd a b : Int)) (fun k => ?_) (Ev.now _)
      rw [impl_gcd.l0, if_neg (by omega)]; rfl
theorem impl_GcdOf_ev (a b : Int) : Ev (fun k => impl_GcdOf.f k a b) (gcdOf a b) := by
  unfold impl_GcdOf.f gcdOf
  simp only [impl_isNumber_eq, Option.bind_some]
  by_cases ha : numB a = true
  · simp only [if_pos ha]
    by_cases hb : numB b = true
    · simp only [if_pos hb]; rw [if_pos ⟨ha, hb⟩]
      have ha' := numB_true.1 ha
      have hb' := numB_true.1 hb
      exact Ev.bind (impl_gcd_two ha'.1 ha'.2 hb'.1 hb'.2) (Ev.now _)
    · simp only [if_neg hb]; rw [if_neg (fun h => hb h.2)]; exact Ev.now _
  · simp only [if_neg ha]; rw [if_neg (fun h => ha h.1)]; exact Ev.now _
theorem rd_pre (p : List Int) (a : Int) (l : List Int) : rd (p ++ a :: l) (p.length : Int) = a := by
  unfold rd
  rw [Int.toNat_natCast, List.getD_eq_getElem?_getD, List.getElem?_append_right (Nat.le_refl _)]
  simp
theorem set_pre (p : List Int) (a : Int) (l : List Int) (c : Int) : (p ++ a :: l).set ((p.length : Int)).toNat c = p ++ c :: l := by
  rw [Int.toNat_natCast, List.set_append_right _ _ (Nat.le_refl _)]
  simp
theorem spec_l6Open_eq {l : List Int} (h : ∀ x ∈ l, (Lit.int .u8 x).wf = true) : ∃ b, GB b ∧ spec_l6Open.f l = some (b, 0) := by
  unfold spec_l6Open.f
  by_cases h1 : (l.length : Int) > 2000
  · rw [if_pos h1, if_pos (by omega)]
    exact ⟨l.take 2000, ⟨by simp; omega, fun x hx => u8_bd (h x (List.mem_of_mem_take hx))⟩, rfl⟩
  · rw [if_neg h1]
    exact ⟨l, ⟨by omega, fun x hx => u8_bd (h x hx)⟩, rfl⟩
theorem rd_bd {b : List Int} (hb : GB b) (i : Int) : 0 ≤ rd b i ∧ rd b i ≤ 255 := by
  unfold rd
  rw [List.getD_eq_getElem?_getD]
  cases h : b[i.toNat]? with
  | none => simp
  | some x => exact hb.2 x (List.mem_of_getElem? h)
theorem pick_ev {b : List Int} (hb : GB b) {p n : Int} (hp : 0 ≤ p) (hp' : p ≤ 1000) (hn : 1 ≤ n) (hn' : n ≤ 1000) : ∃ v, 0 ≤ v ∧ v < n ∧ Ev (fun k => spec_l6Rd_pick.f k b p n) (v, p + 1) := by
  have hl := hb.1
  have e1 : wrap64 (p + 1) = p + 1 := w64 (by omega) (by omega)
  have e2 : wrap64 (p + 1 - 1) = p := by rw [w64 (by omega) (by omega)]; omega
  unfold spec_l6Rd_pick.f
  simp only [if_neg (show ¬ n < 1 by omega), e1]
  by_cases h0 : b.length = 0
  · refine ⟨0, by omega, by omega, Ev.step (f := fun _ => some (0, p + 1)) (fun k => ?_) (Ev.now _)⟩
    rw [spec_l6Rd_pick.j0, if_pos (by simp [h0])]
  · have hL : ((b.length : Int) == 0) = false := by rw [beq_eq_false_iff_ne]; omega
    rw [hL]
    by_cases h1 : p < (b.length : Int)
    · have hr := rd_bd hb p
      have m := emod_bd (rd b p) (show 0 < n by omega)
      refine ⟨rd b p % n, m.1, m.2, Ev.step (f := fun _ => some (rd b p % n, p + 1)) (fun k => ?_) (Ev.now _)⟩
      rw [spec_l6Rd_pick.j0, if_neg (by simp), e2, if_pos h1, if_pos hp, if_neg (by omega), w64 (x := rd b p) (by omega) (by omega), tm hr.1]
    · have m1 := emod_bd p (show (0 : Int) < b.length by omega)
      have t1 : Int.tmod p (b.length : Int) = p % (b.length : Int) := tm hp
      have e7 : wrap64 (wrap64 (p * 7) + 3) = p * 7 + 3 := by rw [w64 (x := p * 7) (by omega) (by omega), w64 (by omega) (by omega)]
      have t2 : Int.tmod (p * 7 + 3) (b.length : Int) = (p * 7 + 3) % (b.length : Int) := tm (by omega)
      have m2 := emod_bd (p * 7 + 3) (show (0 : Int) < b.length by omega)
      have r1 := rd_bd hb (p % (b.length : Int))
      have r2 := rd_bd hb ((p * 7 + 3) % (b.length : Int))
      have d1 : Int.tdiv p (b.length : Int) = p / (b.length : Int) := Int.tdiv_eq_ediv_of_nonneg hp
      have d2 : 0 ≤ p / (b.length : Int) ∧ p / (b.length : Int) ≤ p := ⟨Int.ediv_nonneg hp (by omega), Int.ediv_le_self _ hp⟩
      have key : ∃ v, 0 ≤ v ∧ v < n ∧ ∀ k, spec_l6Rd_pick.j0 (k + 1) n false b (p + 1) = some (v, p + 1) := by
        generalize hq1 : rd b (p % (b.length : Int)) = q1 at r1
        generalize hq2 : rd b ((p * 7 + 3) % (b.length : Int)) = q2 at r2
        generalize hq3 : p / (b.length : Int) = q3 at d1 d2
        have hx0 : 0 ≤ Go.bits .xor .i64 (q1 * 131 + q2 * 1117 + p * 29 + q3 * 53) ((q1 * 131 + q2 * 1117 + p * 29 + q3 * 53) / 64) := xor_nonneg (by omega) (by omega) (by omega) (by omega)
        refine ⟨_, (emod_bd (Go.bits .xor .i64 (q1 * 131 + q2 * 1117 + p * 29 + q3 * 53) ((q1 * 131 + q2 * 1117 + p * 29 + q3 * 53) / 64)) (show 0 < n by omega)).1, (emod_bd _ (show 0 < n by omega)).2, fun k => ?_⟩
        rw [spec_l6Rd_pick.j0, if_neg (by simp), e2, if_neg h1, if_neg (by omega), t1, if_pos m1.1, if_pos m1.2, e7, t2, if_pos m2.1, if_pos m2.2, if_neg (by omega), hq1, hq2, d1,
          w64 (x := q1) (by omega) (by omega), w64 (x := q2) (by omega) (by omega), w64 (x := q1 * 131) (by omega) (by omega), w64 (x := q2 * 1117) (by omega) (by omega), w64 (x := q1 * 131 + q2 * 1117) (by omega) (by omega),
          w64 (x := p * 29) (by omega) (by omega), w64 (x := q1 * 131 + q2 * 1117 + p * 29) (by omega) (by omega), w64 (x := q3) (by omega) (by omega), w64 (x := q3 * 53) (by omega) (by omega),
          w64 (x := q1 * 131 + q2 * 1117 + p * 29 + q3 * 53) (by omega) (by omega),
          Int.tdiv_eq_ediv_of_nonneg (a := q1 * 131 + q2 * 1117 + p * 29 + q3 * 53) (by omega), w64 (x := (q1 * 131 + q2 * 1117 + p * 29 + q3 * 53) / 64) (by omega) (by omega), tm hx0]
      obtain ⟨v, h2, h3, h4⟩ := key
      exact ⟨v, h2, h3, Ev.step (f := fun _ => some (v, p + 1)) h4 (Ev.now _)⟩
theorem l91Number_ev {b : List Int} (hb : GB b) {p : Int} (hp : 0 ≤ p) (hp' : p ≤ 500) : ∃ n q, DN n ∧ p ≤ q ∧ q ≤ p + 4 ∧ Ev (fun k => spec_l91Number.f k b p) (n, q) := by
  unfold spec_l91Number.f
  obtain ⟨v, a1, a2, a3⟩ := pick_ev hb (p := p) (n := 30) hp (by omega) (by omega) (by omega)
  by_cases h : v = 0
  · obtain ⟨u, b1, b2, b3⟩ := pick_ev hb (p := p + 1) (n := 6) (by omega) (by omega) (by omega) (by omega)
    have key : DN (rd [0, 5000, 5001, (-5001), 4096, 3969] u) := by
      have : u = 0 ∨ u = 1 ∨ u = 2 ∨ u = 3 ∨ u = 4 ∨ u = 5 := by omega
      rcases this with rfl | rfl | rfl | rfl | rfl | rfl <;> simp [DN, rd]
    refine ⟨_, p + 2, key, by omega, by omega, Ev.bind a3 ?_⟩
    simp only [if_pos h, Option.bind_some]
    refine Ev.bind b3 ?_
    simp only [if_pos b1]
    rw [if_pos (by simp; omega), show p + 1 + 1 = p + 2 by omega]
    exact Ev.now _
  · obtain ⟨u, b1, b2, b3⟩ := pick_ev hb (p := p + 1) (n := 40) (by omega) (by omega) (by omega) (by omega)
    obtain ⟨x, c1, c2, c3⟩ := pick_ev hb (p := p + 1 + 1) (n := 3) (by omega) (by omega) (by omega) (by omega)
    obtain ⟨s, d1, d2, d3⟩ := pick_ev hb (p := p + 1 + 1 + 1) (n := 2) (by omega) (by omega) (by omega) (by omega)
    have hux : 0 ≤ u * (1 + x) ∧ u * (1 + x) ≤ 117 := by
      have : x = 0 ∨ x = 1 ∨ x = 2 := by omega
      rcases this with rfl | rfl | rfl <;> omega
    by_cases hs : s = 0
    · refine ⟨-(1 + u * (1 + x)), p + 4, ?_, by omega, by omega, Ev.bind a3 ?_⟩
      · unfold DN; omega
      simp only [if_neg h]
      refine Ev.bind b3 (Ev.bind c3 (Ev.bind d3 ?_))
      simp only [if_pos hs]
      rw [w64 (x := 1 + x) (by omega) (by omega), w64 (x := u * (1 + x)) (by omega) (by omega), w64 (x := 1 + u * (1 + x)) (by omega) (by omega), w64 (x := -(1 + u * (1 + x))) (by omega) (by omega), show p + 1 + 1 + 1 + 1 = p + 4 by omega]
      exact Ev.now _
    · refine ⟨1 + u * (1 + x), p + 4, ?_, by omega, by omega, Ev.bind a3 ?_⟩
      · unfold DN; omega
      simp only [if_neg h]
      refine Ev.bind b3 (Ev.bind c3 (Ev.bind d3 ?_))
      simp only [if_neg hs]
      rw [w64 (x := 1 + x) (by omega) (by omega), w64 (x := u * (1 + x)) (by omega) (by omega), w64 (x := 1 + u * (1 + x)) (by omega) (by omega), show p + 1 + 1 + 1 + 1 = p + 4 by omega]
      exact Ev.now _
theorem DrawInverseMod_ev {l : List Int} (h : ∀ x ∈ l, (Lit.int .u8 x).wf = true) : ∃ n m, DN n ∧ (0 ≤ m ∧ m ≤ 6000) ∧ Ev (fun k => spec_DrawInverseMod.f k l) (n, m) := by
  obtain ⟨bs, hb, e⟩ := spec_l6Open_eq h
  unfold spec_DrawInverseMod.f
  simp only [e, Option.bind_some]
  obtain ⟨a, q, a1, a2, a3, a4⟩ := l91Number_ev hb (p := 0) (by omega) (by omega)
  obtain ⟨u, b1, b2, b3⟩ := pick_ev hb (p := q) (n := 60) (by omega) (by omega) (by omega) (by omega)
  obtain ⟨v, c1, c2, c3⟩ := pick_ev hb (p := q + 1) (n := 20) (by omega) (by omega) (by omega) (by omega)
  have t : Int.tdiv v 19 = v / 19 := Int.tdiv_eq_ediv_of_nonneg c1
  refine ⟨a, 1 + u + v / 19 * 5000, a1, ⟨by omega, by omega⟩, Ev.bind a4 (Ev.bind b3 (Ev.bind c3 ?_))⟩
  rw [t, w64 (x := v / 19) (by omega) (by omega), w64 (x := v / 19 * 5000) (by omega) (by omega), w64 (x := 1 + u) (by omega) (by omega), w64 (x := 1 + u + v / 19 * 5000) (by omega) (by omega)]
  exact Ev.now _
theorem restOf_eq {n m : Int} (h0 : 0 < m) (h1 : m ≤ 1000000000) : laws_restOf.f n m = some (n % m) := by
  unfold laws_restOf.f; rw [if_neg (by omega), rest_form h0 h1]
theorem FnInverse : laws_FnInverse.Pure := by
  intro l _ _ hl
  refine Ev.rounds ?_
  unfold laws_FnInverse.f
  by_cases hlen : (l.length : Int) > 1048576
  · simp only [if_pos hlen]; exact Ev.now _
  · simp only [if_neg hlen]
    obtain ⟨n, m, dn, dm, hev⟩ := DrawInverseMod_ev hl
    refine Ev.bind hev (Ev.bind (impl_InverseMod_ev n m) (Ev.bind (spec_InverseMod_ev n m) ?_))
    simp only [bne_self_eq_false, if_true, Bool.false_eq_true, if_false]
    cases hok : (invOf n m).2 with
    | false =>
      refine Ev.step (f := fun _ => some true) (fun k => ?_) (Ev.now _)
      rw [laws_FnInverse.j0, if_pos (by simp), if_pos (by simp), beq_self_eq_true]
    | true =>
      have hc : numB n = true ∧ 2 ≤ m ∧ m ≤ 5000 := by
        refine Classical.byContradiction fun hc => ?_
        unfold invOf at hok; rw [if_neg hc] at hok; cases hok
      have hnn := numB_true.1 hc.1
      have hi : invOf n m = two (invS n m) := by unfold invOf; rw [if_pos hc]
      obtain ⟨x, hx⟩ : ∃ x, invS n m = some x := by
        cases h : invS n m with
        | none => rw [hi, h] at hok; cases hok
        | some x => exact ⟨x, rfl⟩
      have hxv : (invOf n m).1 = x := by rw [hi, hx]; rfl
      rw [hxv]
      obtain ⟨s1, s2, s3, s4⟩ := srch_some hx
      have s3 := of_decide_eq_true s3
      have hxm : x < m := by omega
      have hmul : n * x % m = 1 := by
        rw [Int.mul_emod, Int.emod_eq_of_lt (a := x) (by omega) hxm]
        exact s3
      have hxnum : numB x = true := numB_true.2 ⟨by omega, by omega⟩
      have hr := emod_bd n (show 0 < m by omega)
      have hr1 : 1 ≤ n % m := by
        rcases Int.lt_or_le 0 (n % m) with h | h
        · omega
        · have : n % m = 0 := by omega
          rw [this, Int.zero_mul, Int.zero_emod] at s3; cases s3
      have hback : invOf x m = (n % m, true) := by
        unfold invOf; rw [if_pos ⟨hxnum, hc.2⟩]
        have : invS x m = some (n % m) := by
          unfold invS
          refine srch_eq hr1 (by omega) (decide_eq_true ?_) fun y y1 y2 => decide_eq_false fun hy => ?_
          · rw [Int.emod_eq_of_lt (by omega) hxm, Int.mul_comm]; exact s3
          · rw [Int.emod_eq_of_lt (by omega) hxm] at hy
            have hd : m ∣ (n % m - y) * x := by
              have e1 : (n % m * x) % m = (y * x) % m := by rw [s3, Int.mul_comm y x, hy]
              have := Int.dvd_of_emod_eq_zero (Int.emod_eq_emod_iff_emod_sub_eq_zero.1 e1)
              rw [Int.sub_mul]; exact this
            have hd2 : m ∣ n % m - y := by
              have h2 : m ∣ (n % m - y) * x * n := Int.dvd_mul_of_dvd_left hd
              have h3 : m ∣ n * x - 1 := Int.dvd_of_emod_eq_zero (by
                rw [← Int.emod_eq_emod_iff_emod_sub_eq_zero, hmul, Int.emod_eq_of_lt (by omega) (by omega)])
              have e : n % m - y = (n % m - y) * x * n - (n % m - y) * (n * x - 1) := by grind
              rw [e]; exact Int.dvd_sub h2 (Int.dvd_mul_of_dvd_right h3)
            exact not_dvd_small (by omega) (by omega) (by omega) hd2
        rw [this]; rfl
      have hgcd : gcdOf n m = 1 := by
        unfold gcdOf
        rw [if_pos ⟨hc.1, numB_true.2 ⟨by omega, by omega⟩⟩]
        have hd1 : (Int.gcd n m : Int) ∣ n := Int.gcd_dvd_left ..
        have hd2 : (Int.gcd n m : Int) ∣ m := Int.gcd_dvd_right ..
        have h3 : m ∣ n * x - 1 := Int.dvd_of_emod_eq_zero (by
          rw [← Int.emod_eq_emod_iff_emod_sub_eq_zero, hmul, Int.emod_eq_of_lt (by omega) (by omega)])
        have : (Int.gcd n m : Int) ∣ 1 := by
          have e : (1 : Int) = n * x - (n * x - 1) := by omega
          rw [e]; exact Int.dvd_sub (Int.dvd_mul_of_dvd_left hd1) (Int.dvd_trans hd2 h3)
        exact Int.eq_one_of_dvd_one (by omega) this
      have hb := abs_mul_bd hnn.1 hnn.2 (show -5000 ≤ x by omega) (show x ≤ 5000 by omega)
      refine Ev.step (fun k => by rw [laws_FnInverse.j0, if_neg (by simp)]) ?_
      refine Ev.bind (impl_InverseMod_ev x m) ?_
      rw [hback]
      simp only [if_true]
      refine Ev.bind (impl_GcdOf_ev n m) ?_
      rw [hgcd]
      simp only [if_true, restOf_eq (n := n) (show 0 < m by omega) (by omega), Option.bind_some, w64 (x := n * x) (by omega) (by omega), restOf_eq (n := n * x) (show 0 < m by omega) (by omega), hmul]
      exact Ev.now _

end Go.Proofs.Ytmepbogcfkecnaa.Pure
