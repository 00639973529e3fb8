/- At every draw the program's GcdOf is the reference's, it divides both numbers, and what is left of both behind it has no divisor in common.
No condition beyond the given statement. The printed functions are tied to plain arithmetic one by one; the law follows at the end. -/
import Derived.Test.YtmepbogcfkecnaaWSized
import Derived.Test.YtmepbogcfkecnaaPFnGcdx3
import Derived.Test.YtmepbogcfkecnaaM6
set_option linter.unusedVariables false
set_option linter.unusedSimpArgs false
namespace Go.Proofs.Ytmepbogcfkecnaa
open Go.ChangeShapes Go.WideShapes
/-- The words' lemma on the length of a slice, under the name by which the row of this law calls it. -/
theorem PrintWords.sized_ints {H : Type} {enc : TypeId × Value → H} {P : Program} {W : World} {base : Nat} {spare : Nat → Bool} {held : Bool} {t e : TypeId} {k : IntKind} {a : Option Addr} {len cap : Nat} {d : DataW H} {ps : List MemPlace} {ts : List TypeId} {ds : List (DataW H)} {j : Nat}
    (hsz : (DataW.weightsEach P ts ds).all (· ≤ reachBytes) = true) (ht : ts[j]? = some t) (hd : ds[j]? = some d) (hu : P.underlying t = some (.slice e)) (he : P.underlying e = some (.int k)) (hc : P.cellsOf e = 1) {B : Nat} (hB : P.bytesOf e = B)
    (h : DataW.Trod enc P W base spare held t (.slice a len cap) d ps) : len * B ≤ 140737488351232 :=
  Go.Proofs.YtmepbogcfkecnaaW.PrintWords.sized_ints hsz ht hd hu he hc hB h
end Go.Proofs.Ytmepbogcfkecnaa
namespace Go.Proofs.Ytmepbogcfkecnaa.Pure
open Go.RowKit Go.Proofs.Ytmepbogcfkecnaa.PFnGcd Go.Proofs.YtmepbogcfkecnaaW.PrintWords Go.Proofs.YtmepbogcfkecnaaW.PrintLast Go.Proofs.YtmepbogcfkecnaaW.PrintMore Go.Proofs.LG

theorem spec_l6In_eq (a b c : Int) : spec_l6In.f a b c = some (decide (b ≤ a ∧ a ≤ c)) := by
  unfold spec_l6In.f
  by_cases h : a ≥ b
  · rw [if_pos h]; congr 1; rw [decide_eq_decide]; omega
  · rw [if_neg h]; congr 1; symm; rw [decide_eq_false_iff_not]; omega
theorem spec_l1Number_eq (a : Int) : spec_l1Number.f a = some (numB a) := by
  unfold spec_l1Number.f; rw [spec_l6In_eq]; rfl
theorem impl_isNumber_eq (a : Int) : impl_isNumber.f a = some (numB a) := by
  unfold impl_isNumber.f numB
  by_cases h : a ≥ -5000
  · rw [if_pos h]; congr 1; rw [decide_eq_decide]; omega
  · rw [if_neg h]; congr 1; symm; rw [decide_eq_false_iff_not]; omega
theorem spec_l1Size_eq {n : Int} (h : -1000000000000 ≤ n) (h' : n ≤ 1000000000000) : spec_l1Size.f n = some (n.natAbs : Int) := by
  unfold spec_l1Size.f mx
  rw [w64 (by omega) (by omega)]
  congr 1
  split <;> omega
theorem impl_size_eq {n : Int} (h : -1000000000000 ≤ n) (h' : n ≤ 1000000000000) : impl_size.f n = some (n.natAbs : Int) := by
  unfold impl_size.f mx
  rw [w64 (by omega) (by omega)]
  congr 1
  split <;> omega
theorem spec_l1Gcd_l0 : ∀ (f : Nat) (x y : Int), 0 ≤ x → 0 ≤ y → y < f → Ev (fun k => spec_l1Gcd.l0 k x y) (Int.gcd x y : Int) := by
  intro f
  induction f with
  | zero => intro x y hx hy hf; omega
  | succ f ih =>
    intro x y hx hy hf
    by_cases h : y = 0
    · subst h
      refine Ev.step (f := fun _ => some x) (fun k => ?_) ?_
      · rw [spec_l1Gcd.l0, if_pos rfl]
      · have e : (Int.gcd x 0 : Int) = x := by rw [Int.gcd_zero]; omega
        rw [e]; exact Ev.now _
    · have r := emod_bd x (show 0 < y by omega)
      rw [gcd_step hx (by omega)]
      refine Ev.step (fun k => ?_) (ih y (x % y) hy r.1 (by omega))
      rw [spec_l1Gcd.l0, if_neg h, tm hx]
theorem spec_GcdOf_ev (a b : Int) : Ev (fun k => spec_GcdOf.f k a b) (gcdOf a b) := by
  unfold spec_GcdOf.f gcdOf
  simp only [spec_l1Number_eq, Option.bind_some]
  by_cases ha : numB a = true
  · simp only [if_pos ha]
    by_cases hb : numB b = true
    · simp only [if_pos hb]; rw [if_pos ⟨ha, hb⟩]
      have ha' := numB_true.1 ha
      have hb' := numB_true.1 hb
      refine Ev.bind ?_ (Ev.now _)
      unfold spec_l1Gcd.f
      simp only [spec_l1Size_eq (n := a) (by omega) (by omega), spec_l1Size_eq (n := b) (by omega) (by omega), Option.bind_some]
      have := spec_l1Gcd_l0 (b.natAbs + 1) a.natAbs b.natAbs (by omega) (by omega) (by omega)
      rw [Int.gcd_natCast_natCast] at this
      exact this
    · simp only [if_neg hb]; rw [if_neg (fun h => hb h.2)]; exact Ev.now _
  · simp only [if_neg ha]; rw [if_neg (fun h => ha h.1)]; exact Ev.now _
theorem impl_gcd_l1 {l : List Int} {L i r : Int} : ∀ (f : Nat) (x y : Int), 0 ≤ x → 0 ≤ y → y < f → Ev (fun k => impl_gcd.l0 k (Int.gcd x y : Int) l L (i + 1)) r → 0 ≤ i → i < 1000000 → Ev (fun k => impl_gcd.l1 k x y l L i) r := by
  intro f
  induction f with
  | zero => intro x y hx hy hf; omega
  | succ f ih =>
    intro x y hx hy hf hr hi hi'
    by_cases h : y = 0
    · subst h
      have e : (Int.gcd x 0 : Int) = x := by rw [Int.gcd_zero]; omega
      rw [e] at hr
      refine Ev.step (fun k => ?_) hr
      rw [impl_gcd.l1, if_pos rfl, w64 (by omega) (by omega)]
    · have r := emod_bd x (show 0 < y by omega)
      rw [gcd_step hx (by omega)] at hr
      refine Ev.step (fun k => ?_) (ih y (x % y) hy r.1 (by omega) hr hi hi')
      rw [impl_gcd.l1, if_neg h, tm hx]
theorem impl_gcd_two {a b : Int} (ha : -5000 ≤ a) (ha' : a ≤ 5000) (hb : -5000 ≤ b) (hb' : b ≤ 5000) : Ev (fun k => impl_gcd.f k [a, b]) (Int.gcd a b : Int) := by
  unfold impl_gcd.f
  refine Ev.step (f := fun k => impl_gcd.l1 k 0 a.natAbs [a, b] 2 0) (fun k => ?_) ?_
  · rw [impl_gcd.l0]
    show (if (0 : Int) < 2 then _ else _) = _
    rw [if_pos (by omega), if_pos (by omega), if_pos (by simp), show rd [a, b] 0 = a from rfl, impl_size_eq (by omega) (by omega), Option.bind_some]
    rfl
  · refine impl_gcd_l1 (a.natAbs + 1) 0 a.natAbs (by omega) (by omega) (by omega) ?_ (by omega) (by omega)
    have e : (Int.gcd 0 (a.natAbs : Int) : Int) = a.natAbs := by rw [Int.zero_gcd]; omega
    rw [e]
    refine Ev.step (f := fun k => impl_gcd.l1 k a.natAbs b.natAbs [a, b] 2 1) (fun k => ?_) ?_
    · rw [impl_gcd.l0, if_pos (by omega), if_pos (by omega), if_pos (by simp), show rd [a, b] (0 + 1) = b from rfl, impl_size_eq (by omega) (by omega), Option.bind_some]
      rfl
    · refine impl_gcd_l1 (b.natAbs + 1) a.natAbs b.natAbs (by omega) (by omega) (by omega) ?_ (by omega) (by omega)
      rw [Int.gcd_natCast_natCast]
      refine Ev.step (f := fun _ => some (Int.gcd a b : Int)) (fun k => ?_) (Ev.now _)
      rw [impl_gcd.l0, if_neg (by omega)]; rfl
theorem impl_GcdOf_ev (a b : Int) : Ev (fun k => impl_GcdOf.f k a b) (gcdOf a b) := by
  unfold impl_GcdOf.f gcdOf
  simp only [impl_isNumber_eq, Option.bind_some]
  by_cases ha : numB a = true
  · simp only [if_pos ha]
    by_cases hb : numB b = true
    · simp only [if_pos hb]; rw [if_pos ⟨ha, hb⟩]
      have ha' := numB_true.1 ha
      have hb' := numB_true.1 hb
      exact Ev.bind (impl_gcd_two ha'.1 ha'.2 hb'.1 hb'.2) (Ev.now _)
    · simp only [if_neg hb]; rw [if_neg (fun h => hb h.2)]; exact Ev.now _
  · simp only [if_neg ha]; rw [if_neg (fun h => ha h.1)]; exact Ev.now _
theorem rd_pre (p : List Int) (a : Int) (l : List Int) : rd (p ++ a :: l) (p.length : Int) = a := by
  unfold rd
  rw [Int.toNat_natCast, List.getD_eq_getElem?_getD, List.getElem?_append_right (Nat.le_refl _)]
  simp
theorem set_pre (p : List Int) (a : Int) (l : List Int) (c : Int) : (p ++ a :: l).set ((p.length : Int)).toNat c = p ++ c :: l := by
  rw [Int.toNat_natCast, List.set_append_right _ _ (Nat.le_refl _)]
  simp
theorem spec_l6Open_eq {l : List Int} (h : ∀ x ∈ l, (Lit.int .u8 x).wf = true) : ∃ b, GB b ∧ spec_l6Open.f l = some (b, 0) := by
  unfold spec_l6Open.f
  by_cases h1 : (l.length : Int) > 2000
  · rw [if_pos h1, if_pos (by omega)]
    exact ⟨l.take 2000, ⟨by simp; omega, fun x hx => u8_bd (h x (List.mem_of_mem_take hx))⟩, rfl⟩
  · rw [if_neg h1]
    exact ⟨l, ⟨by omega, fun x hx => u8_bd (h x hx)⟩, rfl⟩
theorem rd_bd {b : List Int} (hb : GB b) (i : Int) : 0 ≤ rd b i ∧ rd b i ≤ 255 := by
  unfold rd
  rw [List.getD_eq_getElem?_getD]
  cases h : b[i.toNat]? with
  | none => simp
  | some x => exact hb.2 x (List.mem_of_getElem? h)
theorem pick_ev {b : List Int} (hb : GB b) {p n : Int} (hp : 0 ≤ p) (hp' : p ≤ 1000) (hn : 1 ≤ n) (hn' : n ≤ 1000) : ∃ v, 0 ≤ v ∧ v < n ∧ Ev (fun k => spec_l6Rd_pick.f k b p n) (v, p + 1) := by
  have hl := hb.1
  have e1 : wrap64 (p + 1) = p + 1 := w64 (by omega) (by omega)
  have e2 : wrap64 (p + 1 - 1) = p := by rw [w64 (by omega) (by omega)]; omega
  unfold spec_l6Rd_pick.f
  simp only [if_neg (show ¬ n < 1 by omega), e1]
  by_cases h0 : b.length = 0
  · refine ⟨0, by omega, by omega, Ev.step (f := fun _ => some (0, p + 1)) (fun k => ?_) (Ev.now _)⟩
    rw [spec_l6Rd_pick.j0, if_pos (by simp [h0])]
  · have hL : ((b.length : Int) == 0) = false := by rw [beq_eq_false_iff_ne]; omega
    rw [hL]
    by_cases h1 : p < (b.length : Int)
    · have hr := rd_bd hb p
      have m := emod_bd (rd b p) (show 0 < n by omega)
      refine ⟨rd b p % n, m.1, m.2, Ev.step (f := fun _ => some (rd b p % n, p + 1)) (fun k => ?_) (Ev.now _)⟩
      rw [spec_l6Rd_pick.j0, if_neg (by simp), e2, if_pos h1, if_pos hp, if_neg (by omega), w64 (x := rd b p) (by omega) (by omega), tm hr.1]
    · have m1 := emod_bd p (show (0 : Int) < b.length by omega)
      have t1 : Int.tmod p (b.length : Int) = p % (b.length : Int) := tm hp
      have e7 : wrap64 (wrap64 (p * 7) + 3) = p * 7 + 3 := by rw [w64 (x := p * 7) (by omega) (by omega), w64 (by omega) (by omega)]
      have t2 : Int.tmod (p * 7 + 3) (b.length : Int) = (p * 7 + 3) % (b.length : Int) := tm (by omega)
      have m2 := emod_bd (p * 7 + 3) (show (0 : Int) < b.length by omega)
      have r1 := rd_bd hb (p % (b.length : Int))
      have r2 := rd_bd hb ((p * 7 + 3) % (b.length : Int))
      have d1 : Int.tdiv p (b.length : Int) = p / (b.length : Int) := Int.tdiv_eq_ediv_of_nonneg hp
      have d2 : 0 ≤ p / (b.length : Int) ∧ p / (b.length : Int) ≤ p := ⟨Int.ediv_nonneg hp (by omega), Int.ediv_le_self _ hp⟩
      have key : ∃ v, 0 ≤ v ∧ v < n ∧ ∀ k, spec_l6Rd_pick.j0 (k + 1) n false b (p + 1) = some (v, p + 1) := by
        generalize hq1 : rd b (p % (b.length : Int)) = q1 at r1
        generalize hq2 : rd b ((p * 7 + 3) % (b.length : Int)) = q2 at r2
        generalize hq3 : p / (b.length : Int) = q3 at d1 d2
        have hx0 : 0 ≤ Go.bits .xor .i64 (q1 * 131 + q2 * 1117 + p * 29 + q3 * 53) ((q1 * 131 + q2 * 1117 + p * 29 + q3 * 53) / 64) := xor_nonneg (by omega) (by omega) (by omega) (by omega)
        refine ⟨_, (emod_bd (Go.bits .xor .i64 (q1 * 131 + q2 * 1117 + p * 29 + q3 * 53) ((q1 * 131 + q2 * 1117 + p * 29 + q3 * 53) / 64)) (show 0 < n by omega)).1, (emod_bd _ (show 0 < n by omega)).2, fun k => ?_⟩
        rw [spec_l6Rd_pick.j0, if_neg (by simp), e2, if_neg h1, if_neg (by omega), t1, if_pos m1.1, if_pos m1.2, e7, t2, if_pos m2.1, if_pos m2.2, if_neg (by omega), hq1, hq2, d1,
          w64 (x := q1) (by omega) (by omega), w64 (x := q2) (by omega) (by omega), w64 (x := q1 * 131) (by omega) (by omega), w64 (x := q2 * 1117) (by omega) (by omega), w64 (x := q1 * 131 + q2 * 1117) (by omega) (by omega),
          w64 (x := p * 29) (by omega) (by omega), w64 (x := q1 * 131 + q2 * 1117 + p * 29) (by omega) (by omega), w64 (x := q3) (by omega) (by omega), w64 (x := q3 * 53) (by omega) (by omega),
          w64 (x := q1 * 131 + q2 * 1117 + p * 29 + q3 * 53) (by omega) (by omega),
          Int.tdiv_eq_ediv_of_nonneg (a := q1 * 131 + q2 * 1117 + p * 29 + q3 * 53) (by omega), w64 (x := (q1 * 131 + q2 * 1117 + p * 29 + q3 * 53) / 64) (by omega) (by omega), tm hx0]
      obtain ⟨v, h2, h3, h4⟩ := key
      exact ⟨v, h2, h3, Ev.step (f := fun _ => some (v, p + 1)) h4 (Ev.now _)⟩
theorem l91Number_ev {b : List Int} (hb : GB b) {p : Int} (hp : 0 ≤ p) (hp' : p ≤ 500) : ∃ n q, DN n ∧ p ≤ q ∧ q ≤ p + 4 ∧ Ev (fun k => spec_l91Number.f k b p) (n, q) := by
  unfold spec_l91Number.f
  obtain ⟨v, a1, a2, a3⟩ := pick_ev hb (p := p) (n := 30) hp (by omega) (by omega) (by omega)
  by_cases h : v = 0
  · obtain ⟨u, b1, b2, b3⟩ := pick_ev hb (p := p + 1) (n := 6) (by omega) (by omega) (by omega) (by omega)
    have key : DN (rd [0, 5000, 5001, (-5001), 4096, 3969] u) := by
      have : u = 0 ∨ u = 1 ∨ u = 2 ∨ u = 3 ∨ u = 4 ∨ u = 5 := by omega
      rcases this with rfl | rfl | rfl | rfl | rfl | rfl <;> simp [DN, rd]
    refine ⟨_, p + 2, key, by omega, by omega, Ev.bind a3 ?_⟩
    simp only [if_pos h, Option.bind_some]
    refine Ev.bind b3 ?_
    simp only [if_pos b1]
    rw [if_pos (by simp; omega), show p + 1 + 1 = p + 2 by omega]
    exact Ev.now _
  · obtain ⟨u, b1, b2, b3⟩ := pick_ev hb (p := p + 1) (n := 40) (by omega) (by omega) (by omega) (by omega)
    obtain ⟨x, c1, c2, c3⟩ := pick_ev hb (p := p + 1 + 1) (n := 3) (by omega) (by omega) (by omega) (by omega)
    obtain ⟨s, d1, d2, d3⟩ := pick_ev hb (p := p + 1 + 1 + 1) (n := 2) (by omega) (by omega) (by omega) (by omega)
    have hux : 0 ≤ u * (1 + x) ∧ u * (1 + x) ≤ 117 := by
      have : x = 0 ∨ x = 1 ∨ x = 2 := by omega
      rcases this with rfl | rfl | rfl <;> omega
    by_cases hs : s = 0
    · refine ⟨-(1 + u * (1 + x)), p + 4, ?_, by omega, by omega, Ev.bind a3 ?_⟩
      · unfold DN; omega
      simp only [if_neg h]
      refine Ev.bind b3 (Ev.bind c3 (Ev.bind d3 ?_))
      simp only [if_pos hs]
      rw [w64 (x := 1 + x) (by omega) (by omega), w64 (x := u * (1 + x)) (by omega) (by omega), w64 (x := 1 + u * (1 + x)) (by omega) (by omega), w64 (x := -(1 + u * (1 + x))) (by omega) (by omega), show p + 1 + 1 + 1 + 1 = p + 4 by omega]
      exact Ev.now _
    · refine ⟨1 + u * (1 + x), p + 4, ?_, by omega, by omega, Ev.bind a3 ?_⟩
      · unfold DN; omega
      simp only [if_neg h]
      refine Ev.bind b3 (Ev.bind c3 (Ev.bind d3 ?_))
      simp only [if_neg hs]
      rw [w64 (x := 1 + x) (by omega) (by omega), w64 (x := u * (1 + x)) (by omega) (by omega), w64 (x := 1 + u * (1 + x)) (by omega) (by omega), show p + 1 + 1 + 1 + 1 = p + 4 by omega]
      exact Ev.now _
theorem DrawGcdOf_ev {l : List Int} (h : ∀ x ∈ l, (Lit.int .u8 x).wf = true) : ∃ a b, DN a ∧ DN b ∧ Ev (fun k => spec_DrawGcdOf.f k l) (a, b) := by
  obtain ⟨bs, hb, e⟩ := spec_l6Open_eq h
  unfold spec_DrawGcdOf.f
  simp only [e, Option.bind_some]
  obtain ⟨a, q, a1, a2, a3, a4⟩ := l91Number_ev hb (p := 0) (by omega) (by omega)
  obtain ⟨b, r, b1, b2, b3, b4⟩ := l91Number_ev hb (p := q) (by omega) (by omega)
  exact ⟨a, b, a1, b1, Ev.bind a4 (Ev.bind b4 (Ev.now _))⟩
theorem FnGcd : laws_FnGcd.Pure := by
  intro l _ _ hl
  refine Ev.rounds ?_
  unfold laws_FnGcd.f
  by_cases hlen : (l.length : Int) > 1048576
  · simp only [if_pos hlen]; exact Ev.now _
  · simp only [if_neg hlen]
    obtain ⟨a, b, da, db, hev⟩ := DrawGcdOf_ev hl
    refine Ev.bind hev (Ev.bind (impl_GcdOf_ev a b) (Ev.bind (spec_GcdOf_ev a b) ?_))
    simp only [if_true]
    by_cases hn : numB a = true ∧ numB b = true
    · have hg : gcdOf a b = (Int.gcd a b : Int) := by unfold gcdOf; rw [if_pos hn]
      rw [hg, decide_eq_false (by omega)]
      have hab := da.bd
      have hbb := db.bd
      have e1 : wrap64 (a + b) = a + b := w64 (by omega) (by omega)
      by_cases h0 : (Int.gcd a b : Int) = 0
      · have h0' : Int.gcd a b = 0 := by omega
        have ha : a = 0 := Int.eq_zero_of_gcd_eq_zero_left h0'
        have hb : b = 0 := Int.eq_zero_of_gcd_eq_zero_right h0'
        refine Ev.step (f := fun _ => some true) (fun k => ?_) (Ev.now _)
        rw [laws_FnGcd.j0, if_neg (by simp), if_pos h0, if_pos ha, hb]; rfl
      · have hda : (Int.gcd a b : Int) ∣ a := Int.gcd_dvd_left ..
        have hdb : (Int.gcd a b : Int) ∣ b := Int.gcd_dvd_right ..
        have hna := numB_true.1 hn.1
        have hnb := numB_true.1 hn.2
        have ta : Int.tdiv a (Int.gcd a b : Int) = a / (Int.gcd a b : Int) := Int.tdiv_eq_ediv_of_dvd hda
        have tb : Int.tdiv b (Int.gcd a b : Int) = b / (Int.gcd a b : Int) := Int.tdiv_eq_ediv_of_dvd hdb
        have la : (a / (Int.gcd a b : Int)).natAbs ≤ a.natAbs := by
          rw [← ta]; exact Int.natAbs_tdiv_le_natAbs _ _
        have lb : (b / (Int.gcd a b : Int)).natAbs ≤ b.natAbs := by
          rw [← tb]; exact Int.natAbs_tdiv_le_natAbs _ _
        have hone : gcdOf (a / (Int.gcd a b : Int)) (b / (Int.gcd a b : Int)) = 1 := by
          unfold gcdOf
          rw [if_pos ⟨numB_true.2 (by omega), numB_true.2 (by omega)⟩, Int.gcd_ediv hda hdb, Int.natAbs_natCast, Nat.div_self (by omega)]; rfl
        have hcomm : gcdOf b a = (Int.gcd a b : Int) := by
          unfold gcdOf; rw [if_pos ⟨hn.2, hn.1⟩, Int.gcd_comm]
        have hc : gcdOf a (a + b) = -1 ∨ gcdOf a (a + b) = (Int.gcd a b : Int) := by
          unfold gcdOf
          by_cases h : numB a = true ∧ numB (a + b) = true
          · rw [if_pos h, Int.gcd_self_add_right]; exact Or.inr rfl
          · rw [if_neg h]; exact Or.inl rfl
        refine Ev.step (fun k => by rw [laws_FnGcd.j0, if_neg (by simp), if_neg h0, e1]) ?_
        refine Ev.bind (impl_GcdOf_ev a (a + b)) ?_
        simp only [if_pos (Int.tmod_eq_zero_of_dvd hda), if_pos (Int.tmod_eq_zero_of_dvd hdb)]
        refine Ev.bind (impl_GcdOf_ev b a) ?_
        rw [hcomm]
        simp only [if_true, ta, tb, w64 (x := a / (Int.gcd a b : Int)) (by omega) (by omega), w64 (x := b / (Int.gcd a b : Int)) (by omega) (by omega)]
        rcases hc with hc | hc
        · rw [hc]; simp only [if_true]
          refine Ev.bind (impl_GcdOf_ev _ _) ?_
          rw [hone]; exact Ev.now _
        · rw [hc]; simp only [if_true, if_neg (show ¬ (Int.gcd a b : Int) = -1 by omega)]
          refine Ev.bind (impl_GcdOf_ev _ _) ?_
          rw [hone]; exact Ev.now _
    · have hg : gcdOf a b = -1 := by unfold gcdOf; rw [if_neg hn]
      rw [hg, decide_eq_true (by omega)]
      refine Ev.step (f := fun _ => some true) (fun k => ?_) (Ev.now _)
      rw [laws_FnGcd.j0, if_pos rfl]; rfl

end Go.Proofs.Ytmepbogcfkecnaa.Pure
