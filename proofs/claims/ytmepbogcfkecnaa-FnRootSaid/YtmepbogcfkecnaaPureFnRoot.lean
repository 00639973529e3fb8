/- At every draw the program's RootMod is the reference's; no smaller integer's square differs from the number by a multiple of the modulus, and twice the root is at most the modulus.
No condition beyond the given statement. The printed functions are tied to plain arithmetic one by one; the law follows at the end. -/
import Derived.Test.YtmepbogcfkecnaaWSized
import Derived.Test.YtmepbogcfkecnaaPFnRootx2
import Derived.Test.YtmepbogcfkecnaaM6
set_option linter.unusedVariables false
set_option linter.unusedSimpArgs false
namespace Go.Proofs.Ytmepbogcfkecnaa
open Go.ChangeShapes Go.WideShapes
/-- The words' lemma on the length of a slice, under the name by which the row of this law calls it. -/
theorem PrintWords.sized_ints {H : Type} {enc : TypeId × Value → H} {P : Program} {W : World} {base : Nat} {spare : Nat → Bool} {held : Bool} {t e : TypeId} {k : IntKind} {a : Option Addr} {len cap : Nat} {d : DataW H} {ps : List MemPlace} {ts : List TypeId} {ds : List (DataW H)} {j : Nat}
    (hsz : (DataW.weightsEach P ts ds).all (· ≤ reachBytes) = true) (ht : ts[j]? = some t) (hd : ds[j]? = some d) (hu : P.underlying t = some (.slice e)) (he : P.underlying e = some (.int k)) (hc : P.cellsOf e = 1) {B : Nat} (hB : P.bytesOf e = B)
    (h : DataW.Trod enc P W base spare held t (.slice a len cap) d ps) : len * B ≤ 140737488351232 :=
  Go.Proofs.YtmepbogcfkecnaaW.PrintWords.sized_ints hsz ht hd hu he hc hB h
end Go.Proofs.Ytmepbogcfkecnaa
namespace Go.Proofs.Ytmepbogcfkecnaa.Pure
open Go.RowKit Go.Proofs.Ytmepbogcfkecnaa.PFnRoot Go.Proofs.YtmepbogcfkecnaaW.PrintWords Go.Proofs.YtmepbogcfkecnaaW.PrintLast Go.Proofs.YtmepbogcfkecnaaW.PrintMore Go.Proofs.LG

theorem spec_l6In_eq (a b c : Int) : spec_l6In.f a b c = some (decide (b ≤ a ∧ a ≤ c)) := by
  unfold spec_l6In.f
  by_cases h : a ≥ b
  · rw [if_pos h]; congr 1; rw [decide_eq_decide]; omega
  · rw [if_neg h]; congr 1; symm; rw [decide_eq_false_iff_not]; omega
theorem spec_l1Number_eq (a : Int) : spec_l1Number.f a = some (numB a) := by
  unfold spec_l1Number.f; rw [spec_l6In_eq]; rfl
theorem impl_isNumber_eq (a : Int) : impl_isNumber.f a = some (numB a) := by
  unfold impl_isNumber.f numB
  by_cases h : a ≥ -5000
  · rw [if_pos h]; congr 1; rw [decide_eq_decide]; omega
  · rw [if_neg h]; congr 1; symm; rw [decide_eq_false_iff_not]; omega
theorem spec_l1Mod_eq {n m : Int} (h0 : 0 < m) (h1 : m ≤ 1000000000) : spec_l1Mod.f n m = some (n % m) := by
  unfold spec_l1Mod.f; rw [if_neg (by omega), rest_form h0 h1]
theorem impl_rest_eq {n m : Int} (h0 : 0 < m) (h1 : m ≤ 1000000000) : impl_rest.f n m = some (n % m) := by
  unfold impl_rest.f; rw [if_neg (by omega), rest_form h0 h1]
theorem spec_RootMod_l0 {n m : Int} (hn : numB n = true) (hm : 1 ≤ m) (hm' : m ≤ 5000) : ∀ (d : Nat) (x : Int), 0 ≤ x → x + d = m → Ev (fun k => spec_RootMod.l0 k n m x) (two (srch (fun x => decide (x * x % m = n % m)) d x)) := by
  have hn' := numB_true.1 hn
  intro d
  induction d with
  | zero =>
    intro x h0 hd
    refine Ev.step (f := fun k => spec_RootMod.j1 k n m x false) (fun k => ?_) (Ev.step (f := fun _ => some (0, false)) (fun k => ?_) (Ev.now _))
    · rw [spec_RootMod.l0, if_neg (by omega)]
    · rw [spec_RootMod.j1, if_neg (by simp)]
  | succ d ih =>
    intro x h0 hd
    have hb := mul_bd h0 (show x ≤ 5000 by omega) h0 (show x ≤ 5000 by omega)
    refine Ev.step (f := fun k => spec_RootMod.j1 k n m x true) (fun k => ?_) ?_
    · rw [spec_RootMod.l0, if_pos (by omega), spec_l1Number_eq, Option.bind_some, if_pos hn, spec_l6In_eq, Option.bind_some, decide_eq_true ⟨hm, hm'⟩]
    · rw [srch]
      by_cases h : x * x % m = n % m
      · rw [if_pos (decide_eq_true h)]
        refine Ev.step (f := fun _ => some (x, true)) (fun k => ?_) (Ev.now _)
        rw [spec_RootMod.j1, if_pos rfl, w64 (x := x * x) (by omega) (by omega), w64 (by omega) (by omega), spec_l1Mod_eq (by omega) (by omega), Option.bind_some, if_pos (Int.emod_eq_emod_iff_emod_sub_eq_zero.1 h)]
      · rw [if_neg (by simpa using h)]
        refine Ev.step (fun k => ?_) (ih (x + 1) (by omega) (by omega))
        rw [spec_RootMod.j1, if_pos rfl, w64 (x := x * x) (by omega) (by omega), w64 (x := x * x - n) (by omega) (by omega), spec_l1Mod_eq (by omega) (by omega), Option.bind_some, if_neg (fun e => h (Int.emod_eq_emod_iff_emod_sub_eq_zero.2 e)), w64 (by omega) (by omega)]
theorem spec_RootMod_ev (n m : Int) : Ev (fun k => spec_RootMod.f k n m) (rootOf n m) := by
  unfold spec_RootMod.f rootOf
  by_cases h : numB n = true ∧ 1 ≤ m ∧ m ≤ 5000
  · rw [if_pos h]
    exact spec_RootMod_l0 h.1 h.2.1 h.2.2 _ 0 (by omega) (by omega)
  · rw [if_neg h]
    refine Ev.step (f := fun k => spec_RootMod.j1 k n m 0 false) (fun k => ?_) (Ev.step (f := fun _ => some (0, false)) (fun k => ?_) (Ev.now _))
    · rw [spec_RootMod.l0]
      by_cases h0 : 0 < m
      · rw [if_pos h0, spec_l1Number_eq, Option.bind_some]
        by_cases h1 : numB n = true
        · rw [if_pos h1, spec_l6In_eq, Option.bind_some, decide_eq_false (fun h' => h ⟨h1, h'⟩)]
        · rw [if_neg h1]
      · rw [if_neg h0]
    · rw [spec_RootMod.j1, if_neg (by simp)]
theorem impl_rootMod_l0 {n m : Int} (hm : 1 ≤ m) (hm' : m ≤ 5000) : ∀ (d : Nat) (x : Int), 0 ≤ x → x + d = m → Ev (fun k => impl_rootMod.l0 k n m m x) (two (srch (fun x => decide (x * x % m = n % m)) d x)) := by
  intro d
  induction d with
  | zero =>
    intro x h0 hd
    refine Ev.step (f := fun _ => some (0, false)) (fun k => ?_) (Ev.now _)
    rw [impl_rootMod.l0, if_neg (by omega)]
  | succ d ih =>
    intro x h0 hd
    have hb := mul_bd h0 (show x ≤ 5000 by omega) h0 (show x ≤ 5000 by omega)
    rw [srch]
    by_cases h : x * x % m = n % m
    · rw [if_pos (decide_eq_true h)]
      refine Ev.step (f := fun _ => some (x, true)) (fun k => ?_) (Ev.now _)
      rw [impl_rootMod.l0, if_pos (by omega), if_neg (by omega), impl_rest_eq (by omega) (by omega), Option.bind_some, w64 (by omega) (by omega), tm hb.1, if_pos h]
    · rw [if_neg (by simpa using h)]
      refine Ev.step (fun k => ?_) (ih (x + 1) (by omega) (by omega))
      rw [impl_rootMod.l0, if_pos (by omega), if_neg (by omega), impl_rest_eq (by omega) (by omega), Option.bind_some, w64 (x := x * x) (by omega) (by omega), tm hb.1, if_neg h, w64 (by omega) (by omega)]
theorem impl_rootMod_ev {n m : Int} (hm : 1 ≤ m) (hm' : m ≤ 5000) : Ev (fun k => impl_rootMod.f k n m) (two (rootS n m)) :=
  impl_rootMod_l0 hm hm' _ 0 (by omega) (by omega)
theorem impl_RootMod_ev (n m : Int) : Ev (fun k => impl_RootMod.f k n m) (rootOf n m) := by
  unfold impl_RootMod.f rootOf
  simp only [impl_isNumber_eq, Option.bind_some]
  by_cases h : numB n = true
  · simp only [if_pos h]
    by_cases h1 : m < 1
    · simp only [if_pos h1]; rw [if_neg (by omega)]; exact Ev.now _
    · simp only [if_neg h1]
      by_cases h5 : m > 5000
      · simp only [if_pos h5]; rw [if_neg (by omega)]; exact Ev.now _
      · simp only [if_neg h5]; rw [if_pos ⟨h, by omega, by omega⟩]
        exact Ev.bind (impl_rootMod_ev (by omega) (by omega)) (Ev.now _)
  · simp only [if_neg h]; rw [if_neg (fun h' => h h'.1)]; exact Ev.now _
theorem rd_pre (p : List Int) (a : Int) (l : List Int) : rd (p ++ a :: l) (p.length : Int) = a := by
  unfold rd
  rw [Int.toNat_natCast, List.getD_eq_getElem?_getD, List.getElem?_append_right (Nat.le_refl _)]
  simp
theorem set_pre (p : List Int) (a : Int) (l : List Int) (c : Int) : (p ++ a :: l).set ((p.length : Int)).toNat c = p ++ c :: l := by
  rw [Int.toNat_natCast, List.set_append_right _ _ (Nat.le_refl _)]
  simp
theorem spec_l6Open_eq {l : List Int} (h : ∀ x ∈ l, (Lit.int .u8 x).wf = true) : ∃ b, GB b ∧ spec_l6Open.f l = some (b, 0) := by
  unfold spec_l6Open.f
  by_cases h1 : (l.length : Int) > 2000
  · rw [if_pos h1, if_pos (by omega)]
    exact ⟨l.take 2000, ⟨by simp; omega, fun x hx => u8_bd (h x (List.mem_of_mem_take hx))⟩, rfl⟩
  · rw [if_neg h1]
    exact ⟨l, ⟨by omega, fun x hx => u8_bd (h x hx)⟩, rfl⟩
theorem rd_bd {b : List Int} (hb : GB b) (i : Int) : 0 ≤ rd b i ∧ rd b i ≤ 255 := by
  unfold rd
  rw [List.getD_eq_getElem?_getD]
  cases h : b[i.toNat]? with
  | none => simp
  | some x => exact hb.2 x (List.mem_of_getElem? h)
theorem pick_ev {b : List Int} (hb : GB b) {p n : Int} (hp : 0 ≤ p) (hp' : p ≤ 1000) (hn : 1 ≤ n) (hn' : n ≤ 1000) : ∃ v, 0 ≤ v ∧ v < n ∧ Ev (fun k => spec_l6Rd_pick.f k b p n) (v, p + 1) := by
  have hl := hb.1
  have e1 : wrap64 (p + 1) = p + 1 := w64 (by omega) (by omega)
  have e2 : wrap64 (p + 1 - 1) = p := by rw [w64 (by omega) (by omega)]; omega
  unfold spec_l6Rd_pick.f
  simp only [if_neg (show ¬ n < 1 by omega), e1]
  by_cases h0 : b.length = 0
  · refine ⟨0, by omega, by omega, Ev.step (f := fun _ => some (0, p + 1)) (fun k => ?_) (Ev.now _)⟩
    rw [spec_l6Rd_pick.j0, if_pos (by simp [h0])]
  · have hL : ((b.length : Int) == 0) = false := by rw [beq_eq_false_iff_ne]; omega
    rw [hL]
    by_cases h1 : p < (b.length : Int)
    · have hr := rd_bd hb p
      have m := emod_bd (rd b p) (show 0 < n by omega)
      refine ⟨rd b p % n, m.1, m.2, Ev.step (f := fun _ => some (rd b p % n, p + 1)) (fun k => ?_) (Ev.now _)⟩
      rw [spec_l6Rd_pick.j0, if_neg (by simp), e2, if_pos h1, if_pos hp, if_neg (by omega), w64 (x := rd b p) (by omega) (by omega), tm hr.1]
    · have m1 := emod_bd p (show (0 : Int) < b.length by omega)
      have t1 : Int.tmod p (b.length : Int) = p % (b.length : Int) := tm hp
      have e7 : wrap64 (wrap64 (p * 7) + 3) = p * 7 + 3 := by rw [w64 (x := p * 7) (by omega) (by omega), w64 (by omega) (by omega)]
      have t2 : Int.tmod (p * 7 + 3) (b.length : Int) = (p * 7 + 3) % (b.length : Int) := tm (by omega)
      have m2 := emod_bd (p * 7 + 3) (show (0 : Int) < b.length by omega)
      have r1 := rd_bd hb (p % (b.length : Int))
      have r2 := rd_bd hb ((p * 7 + 3) % (b.length : Int))
      have d1 : Int.tdiv p (b.length : Int) = p / (b.length : Int) := Int.tdiv_eq_ediv_of_nonneg hp
      have d2 : 0 ≤ p / (b.length : Int) ∧ p / (b.length : Int) ≤ p := ⟨Int.ediv_nonneg hp (by omega), Int.ediv_le_self _ hp⟩
      have key : ∃ v, 0 ≤ v ∧ v < n ∧ ∀ k, spec_l6Rd_pick.j0 (k + 1) n false b (p + 1) = some (v, p + 1) := by
        generalize hq1 : rd b (p % (b.length : Int)) = q1 at r1
        generalize hq2 : rd b ((p * 7 + 3) % (b.length : Int)) = q2 at r2
        generalize hq3 : p / (b.length : Int) = q3 at d1 d2
        have hx0 : 0 ≤ Go.bits .xor .i64 (q1 * 131 + q2 * 1117 + p * 29 + q3 * 53) ((q1 * 131 + q2 * 1117 + p * 29 + q3 * 53) / 64) := xor_nonneg (by omega) (by omega) (by omega) (by omega)
        refine ⟨_, (emod_bd (Go.bits .xor .i64 (q1 * 131 + q2 * 1117 + p * 29 + q3 * 53) ((q1 * 131 + q2 * 1117 + p * 29 + q3 * 53) / 64)) (show 0 < n by omega)).1, (emod_bd _ (show 0 < n by omega)).2, fun k => ?_⟩
        rw [spec_l6Rd_pick.j0, if_neg (by simp), e2, if_neg h1, if_neg (by omega), t1, if_pos m1.1, if_pos m1.2, e7, t2, if_pos m2.1, if_pos m2.2, if_neg (by omega), hq1, hq2, d1,
          w64 (x := q1) (by omega) (by omega), w64 (x := q2) (by omega) (by omega), w64 (x := q1 * 131) (by omega) (by omega), w64 (x := q2 * 1117) (by omega) (by omega), w64 (x := q1 * 131 + q2 * 1117) (by omega) (by omega),
          w64 (x := p * 29) (by omega) (by omega), w64 (x := q1 * 131 + q2 * 1117 + p * 29) (by omega) (by omega), w64 (x := q3) (by omega) (by omega), w64 (x := q3 * 53) (by omega) (by omega),
          w64 (x := q1 * 131 + q2 * 1117 + p * 29 + q3 * 53) (by omega) (by omega),
          Int.tdiv_eq_ediv_of_nonneg (a := q1 * 131 + q2 * 1117 + p * 29 + q3 * 53) (by omega), w64 (x := (q1 * 131 + q2 * 1117 + p * 29 + q3 * 53) / 64) (by omega) (by omega), tm hx0]
      obtain ⟨v, h2, h3, h4⟩ := key
      exact ⟨v, h2, h3, Ev.step (f := fun _ => some (v, p + 1)) h4 (Ev.now _)⟩
theorem l91Number_ev {b : List Int} (hb : GB b) {p : Int} (hp : 0 ≤ p) (hp' : p ≤ 500) : ∃ n q, DN n ∧ p ≤ q ∧ q ≤ p + 4 ∧ Ev (fun k => spec_l91Number.f k b p) (n, q) := by
  unfold spec_l91Number.f
  obtain ⟨v, a1, a2, a3⟩ := pick_ev hb (p := p) (n := 30) hp (by omega) (by omega) (by omega)
  by_cases h : v = 0
  · obtain ⟨u, b1, b2, b3⟩ := pick_ev hb (p := p + 1) (n := 6) (by omega) (by omega) (by omega) (by omega)
    have key : DN (rd [0, 5000, 5001, (-5001), 4096, 3969] u) := by
      have : u = 0 ∨ u = 1 ∨ u = 2 ∨ u = 3 ∨ u = 4 ∨ u = 5 := by omega
      rcases this with rfl | rfl | rfl | rfl | rfl | rfl <;> simp [DN, rd]
    refine ⟨_, p + 2, key, by omega, by omega, Ev.bind a3 ?_⟩
    simp only [if_pos h, Option.bind_some]
    refine Ev.bind b3 ?_
    simp only [if_pos b1]
    rw [if_pos (by simp; omega), show p + 1 + 1 = p + 2 by omega]
    exact Ev.now _
  · obtain ⟨u, b1, b2, b3⟩ := pick_ev hb (p := p + 1) (n := 40) (by omega) (by omega) (by omega) (by omega)
    obtain ⟨x, c1, c2, c3⟩ := pick_ev hb (p := p + 1 + 1) (n := 3) (by omega) (by omega) (by omega) (by omega)
    obtain ⟨s, d1, d2, d3⟩ := pick_ev hb (p := p + 1 + 1 + 1) (n := 2) (by omega) (by omega) (by omega) (by omega)
    have hux : 0 ≤ u * (1 + x) ∧ u * (1 + x) ≤ 117 := by
      have : x = 0 ∨ x = 1 ∨ x = 2 := by omega
      rcases this with rfl | rfl | rfl <;> omega
    by_cases hs : s = 0
    · refine ⟨-(1 + u * (1 + x)), p + 4, ?_, by omega, by omega, Ev.bind a3 ?_⟩
      · unfold DN; omega
      simp only [if_neg h]
      refine Ev.bind b3 (Ev.bind c3 (Ev.bind d3 ?_))
      simp only [if_pos hs]
      rw [w64 (x := 1 + x) (by omega) (by omega), w64 (x := u * (1 + x)) (by omega) (by omega), w64 (x := 1 + u * (1 + x)) (by omega) (by omega), w64 (x := -(1 + u * (1 + x))) (by omega) (by omega), show p + 1 + 1 + 1 + 1 = p + 4 by omega]
      exact Ev.now _
    · refine ⟨1 + u * (1 + x), p + 4, ?_, by omega, by omega, Ev.bind a3 ?_⟩
      · unfold DN; omega
      simp only [if_neg h]
      refine Ev.bind b3 (Ev.bind c3 (Ev.bind d3 ?_))
      simp only [if_neg hs]
      rw [w64 (x := 1 + x) (by omega) (by omega), w64 (x := u * (1 + x)) (by omega) (by omega), w64 (x := 1 + u * (1 + x)) (by omega) (by omega), show p + 1 + 1 + 1 + 1 = p + 4 by omega]
      exact Ev.now _
theorem DrawRootMod_ev {l : List Int} (h : ∀ x ∈ l, (Lit.int .u8 x).wf = true) : ∃ n m, (-5001 ≤ n ∧ n ≤ 5001) ∧ (0 ≤ m ∧ m ≤ 6000) ∧ Ev (fun k => spec_DrawRootMod.f k l) (n, m) := by
  obtain ⟨bs, hb, e⟩ := spec_l6Open_eq h
  unfold spec_DrawRootMod.f
  simp only [e, Option.bind_some]
  obtain ⟨a, q, a1, a2, a3, a4⟩ := l91Number_ev hb (p := 0) (by omega) (by omega)
  have ab := a1.bd
  obtain ⟨u, b1, b2, b3⟩ := pick_ev hb (p := q) (n := 2) (by omega) (by omega) (by omega) (by omega)
  by_cases h : u = 0
  · obtain ⟨v, c1, c2, c3⟩ := pick_ev hb (p := q + 1) (n := 60) (by omega) (by omega) (by omega) (by omega)
    obtain ⟨w, d1, d2, d3⟩ := pick_ev hb (p := q + 1 + 1) (n := 90) (by omega) (by omega) (by omega) (by omega)
    have bd := mul_bd c1 (show v ≤ 60 by omega) c1 (show v ≤ 60 by omega)
    refine ⟨v * v, 1 + w, ⟨by omega, by omega⟩, ⟨by omega, by omega⟩, Ev.bind a4 (Ev.bind b3 ?_)⟩
    simp only [if_pos h]
    refine Ev.bind c3 (Ev.bind d3 ?_)
    rw [w64 (x := v * v) (by omega) (by omega), w64 (x := 1 + w) (by omega) (by omega)]
    exact Ev.now _
  · obtain ⟨v, c1, c2, c3⟩ := pick_ev hb (p := q + 1) (n := 90) (by omega) (by omega) (by omega) (by omega)
    obtain ⟨w, d1, d2, d3⟩ := pick_ev hb (p := q + 1 + 1) (n := 20) (by omega) (by omega) (by omega) (by omega)
    have t : Int.tdiv w 19 = w / 19 := Int.tdiv_eq_ediv_of_nonneg d1
    refine ⟨a, v + w / 19 * 5000, ⟨by omega, by omega⟩, ⟨by omega, by omega⟩, Ev.bind a4 (Ev.bind b3 ?_)⟩
    simp only [if_neg h]
    refine Ev.bind c3 (Ev.bind d3 ?_)
    rw [t, w64 (x := w / 19) (by omega) (by omega), w64 (x := w / 19 * 5000) (by omega) (by omega), w64 (x := v + w / 19 * 5000) (by omega) (by omega)]
    exact Ev.now _
theorem restOf_eq {n m : Int} (h0 : 0 < m) (h1 : m ≤ 1000000000) : laws_restOf.f n m = some (n % m) := by
  unfold laws_restOf.f; rw [if_neg (by omega), rest_form h0 h1]
theorem FnRoot_l0 {n m r : Int} (hn : -5001 ≤ n) (hn' : n ≤ 5001) (hm : 1 ≤ m) (hm' : m ≤ 5000) (hr : 0 ≤ r) (hrm : r < m) (hP : r * r % m = n % m) (hlt : ∀ y, 0 ≤ y → y < r → y * y % m ≠ n % m) (h2 : 2 * r ≤ m) :
    ∀ (d : Nat) (x : Int), 0 ≤ x → x + d = r → Ev (fun k => laws_FnRoot.l0 k n m r x) true := by
  have hrb := mul_bd hr (show r ≤ 5000 by omega) hr (show r ≤ 5000 by omega)
  intro d
  induction d with
  | zero =>
    intro x hx hd
    have : x = r := by omega
    subst this
    refine Ev.step (f := fun _ => some true) (fun k => ?_) (Ev.now _)
    rw [laws_FnRoot.l0, if_neg (by omega), w64 (x := x * x) (by omega) (by omega), w64 (x := x * x - n) (by omega) (by omega), restOf_eq (by omega) (by omega), Option.bind_some, if_pos (Int.emod_eq_emod_iff_emod_sub_eq_zero.1 hP), w64 (x := 2 * x) (by omega) (by omega), decide_eq_true h2]
  | succ d ih =>
    intro x hx hd
    have hb := mul_bd hx (show x ≤ 5000 by omega) hx (show x ≤ 5000 by omega)
    refine Ev.step (fun k => ?_) (ih (x + 1) (by omega) (by omega))
    rw [laws_FnRoot.l0, if_pos (by omega), w64 (x := x * x) (by omega) (by omega), w64 (x := x * x - n) (by omega) (by omega), restOf_eq (by omega) (by omega), Option.bind_some, if_neg (fun e => hlt x hx (by omega) (Int.emod_eq_emod_iff_emod_sub_eq_zero.2 e)), w64 (x := x + 1) (by omega) (by omega)]
theorem FnRoot : laws_FnRoot.Pure := by
  intro l _ _ hl
  refine Ev.rounds ?_
  unfold laws_FnRoot.f
  by_cases hlen : (l.length : Int) > 1048576
  · simp only [if_pos hlen]; exact Ev.now _
  · simp only [if_neg hlen]
    obtain ⟨n, m, dn, dm, hev⟩ := DrawRootMod_ev hl
    refine Ev.bind hev (Ev.bind (impl_RootMod_ev n m) (Ev.bind (spec_RootMod_ev n m) ?_))
    simp only [bne_self_eq_false, if_true, Bool.false_eq_true, if_false]
    cases hok : (rootOf n m).2 with
    | false =>
      refine Ev.step (f := fun _ => some true) (fun k => ?_) (Ev.now _)
      rw [laws_FnRoot.j0, if_pos (by simp), if_pos (by simp), beq_self_eq_true]
    | true =>
      have hc : numB n = true ∧ 1 ≤ m ∧ m ≤ 5000 := by
        refine Classical.byContradiction fun hc => ?_
        unfold rootOf at hok; rw [if_neg hc] at hok; cases hok
      have hi : rootOf n m = two (rootS n m) := by unfold rootOf; rw [if_pos hc]
      obtain ⟨r, hr⟩ : ∃ r, rootS n m = some r := by
        cases h : rootS n m with
        | none => rw [hi, h] at hok; cases hok
        | some x => exact ⟨x, rfl⟩
      have hrv : (rootOf n m).1 = r := by rw [hi, hr]; rfl
      rw [hrv]
      obtain ⟨s1, s2, s3, s4⟩ := srch_some hr
      have s3 := of_decide_eq_true s3
      have h2 : 2 * r ≤ m := by
        refine Classical.byContradiction fun hh => ?_
        have h1 : (m - r) * (m - r) % m = n % m := by
          rw [← s3]
          have e : (m - r) * (m - r) = r * r + m * (m - 2 * r) := by grind
          rw [e, Int.add_mul_emod_self_left]
        have := of_decide_eq_false (s4 (m - r) (by omega) (by omega))
        exact this h1
      refine Ev.step (f := fun k => laws_FnRoot.l0 k n m r 0) (fun k => by rw [laws_FnRoot.j0, if_neg (by simp)]) ?_
      exact FnRoot_l0 dn.1 dn.2 hc.2.1 hc.2.2 s1 (by omega) s3 (fun y y1 y2 => of_decide_eq_false (s4 y y1 y2)) h2 r.toNat 0 (by omega) (by omega)

end Go.Proofs.Ytmepbogcfkecnaa.Pure
