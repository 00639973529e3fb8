/- At every draw the program's LocalRoot is the reference's; a root of a unit at an odd prime lifts to the next power, as long as that is at most 5000, and the number is a local square.
No condition beyond the given statement. The printed functions are tied to plain arithmetic one by one; the law follows at the end. -/
import Derived.Test.YtpcocojkhcokmaaWSized
import Derived.Test.YtpcocojkhcokmaaPFnRootLiftx4
import Derived.Test.YtpcocojkhcokmaaM13
set_option linter.unusedVariables false
set_option linter.unusedSimpArgs false
namespace Go.Proofs.Ytpcocojkhcokmaa
open Go.ChangeShapes Go.WideShapes
/-- The words' lemma on the length of a slice, under the name by which the row of this law calls it. -/
theorem PrintWords.sized_ints {H : Type} {enc : TypeId × Value → H} {P : Program} {W : World} {base : Nat} {spare : Nat → Bool} {held : Bool} {t e : TypeId} {k : IntKind} {a : Option Addr} {len cap : Nat} {d : DataW H} {ps : List MemPlace} {ts : List TypeId} {ds : List (DataW H)} {j : Nat}
    (hsz : (DataW.weightsEach P ts ds).all (· ≤ reachBytes) = true) (ht : ts[j]? = some t) (hd : ds[j]? = some d) (hu : P.underlying t = some (.slice e)) (he : P.underlying e = some (.int k)) (hc : P.cellsOf e = 1) {B : Nat} (hB : P.bytesOf e = B)
    (h : DataW.Trod enc P W base spare held t (.slice a len cap) d ps) : len * B ≤ 140737488351232 :=
  Go.Proofs.YtpcocojkhcokmaaW.PrintWords.sized_ints hsz ht hd hu he hc hB h
end Go.Proofs.Ytpcocojkhcokmaa
namespace Go.Proofs.Ytpcocojkhcokmaa.Pure
open Go.RowKit Go.Proofs.Ytpcocojkhcokmaa.PFnRootLift Go.Proofs.YtpcocojkhcokmaaW.PrintWords Go.Proofs.YtpcocojkhcokmaaW.PrintLast Go.Proofs.YtpcocojkhcokmaaW.PrintMore Go.Proofs.LG

theorem spec_l6In_eq (a b c : Int) : spec_l6In.f a b c = some (decide (b ≤ a ∧ a ≤ c)) := by
  unfold spec_l6In.f
  by_cases h : a ≥ b
  · rw [if_pos h]; congr 1; rw [decide_eq_decide]; omega
  · rw [if_neg h]; congr 1; symm; rw [decide_eq_false_iff_not]; omega
theorem spec_l1Number_eq (a : Int) : spec_l1Number.f a = some (numB a) := by
  unfold spec_l1Number.f; rw [spec_l6In_eq]; rfl
theorem impl_isNumber_eq (a : Int) : impl_isNumber.f a = some (numB a) := by
  unfold impl_isNumber.f numB
  by_cases h : a ≥ -5000
  · rw [if_pos h]; congr 1; rw [decide_eq_decide]; omega
  · rw [if_neg h]; congr 1; symm; rw [decide_eq_false_iff_not]; omega
theorem spec_PrimeIs_l0 {n : Int} (h2 : 2 ≤ n) (hn : n ≤ 5000) : ∀ (d : Nat) (x : Int), 2 ≤ x → x ≤ n → n - x ≤ d → (∀ y, 2 ≤ y → y < x → ¬ y ∣ n) → Ev (fun k => spec_PrimeIs.l0 k n x) (prB n) := by
  intro d
  induction d with
  | zero =>
    intro x hx hxn hd h
    have := sq_gt hx (show n ≤ x by omega)
    have hb := mul_bd (show 0 ≤ x by omega) (show x ≤ 5000 by omega) (show 0 ≤ x by omega) (show x ≤ 5000 by omega)
    refine Ev.step (f := fun _ => some true) (fun k => ?_) ?_
    · rw [spec_PrimeIs.l0, w64 (by omega) (by omega), if_neg (by omega)]
    · rw [prB_true.2 ⟨pr_of_none h2 x (by omega) (by omega) h, hn⟩]; exact Ev.now _
  | succ d ih =>
    intro x hx hxn hd h
    have hb := mul_bd (show 0 ≤ x by omega) (show x ≤ 5000 by omega) (show 0 ≤ x by omega) (show x ≤ 5000 by omega)
    by_cases hle : x * x ≤ n
    · by_cases hdv : x ∣ n
      · have hlt : x < n := by
          have := sq_gt hx (Int.le_refl x); omega
        refine Ev.step (f := fun _ => some false) (fun k => ?_) ?_
        · rw [spec_PrimeIs.l0, w64 (by omega) (by omega), if_pos hle, if_neg (by omega), if_pos (Int.tmod_eq_zero_of_dvd hdv)]
        · rw [prB_false.2 fun hp => hp.1.2 x hx hlt hdv]; exact Ev.now _
      · have hlt : x < n := by
          have := sq_gt hx (Int.le_refl x); omega
        refine Ev.step (f := fun k => spec_PrimeIs.l0 k n (x + 1)) (fun k => ?_) (ih (x + 1) (by omega) (by omega) (by omega) ?_)
        · rw [spec_PrimeIs.l0, w64 (by omega) (by omega), if_pos hle, if_neg (by omega), if_neg (fun e => hdv (Int.dvd_of_tmod_eq_zero e)), w64 (by omega) (by omega)]
        · intro y h1 h2'
          by_cases e : y = x
          · subst e; exact hdv
          · exact h y h1 (by omega)
    · refine Ev.step (f := fun _ => some true) (fun k => ?_) ?_
      · rw [spec_PrimeIs.l0, w64 (by omega) (by omega), if_neg hle]
      · rw [prB_true.2 ⟨pr_of_none h2 x (by omega) (by omega) h, hn⟩]; exact Ev.now _
theorem spec_PrimeIs_ev (n : Int) : Ev (fun k => spec_PrimeIs.f k n) (prB n) := by
  unfold spec_PrimeIs.f
  simp only [spec_l6In_eq, Option.bind_some]
  by_cases h : 2 ≤ n ∧ n ≤ 5000
  · rw [decide_eq_true h]
    simp only [if_true]
    exact spec_PrimeIs_l0 h.1 h.2 (n - 2).toNat 2 (by omega) (by omega) (by omega) fun y h1 h2 => by omega
  · rw [decide_eq_false h]
    rw [prB_false.2 fun hp => h ⟨hp.1.1, hp.2⟩]
    exact Ev.now _
theorem impl_prime_l0 {n : Int} (h2 : 2 ≤ n) (hn : n ≤ 5000) : ∀ (d : Nat) (x : Int), 2 ≤ x → x ≤ n → n - x ≤ d → (∀ y, 2 ≤ y → y < x → ¬ y ∣ n) → Ev (fun k => impl_prime.l0 k n x) (prB n) := by
  intro d
  induction d with
  | zero =>
    intro x hx hxn hd h
    have := sq_gt hx (show n ≤ x by omega)
    have hb := mul_bd (show 0 ≤ x by omega) (show x ≤ 5000 by omega) (show 0 ≤ x by omega) (show x ≤ 5000 by omega)
    refine Ev.step (f := fun _ => some true) (fun k => ?_) ?_
    · rw [impl_prime.l0, w64 (by omega) (by omega), if_neg (by omega), decide_eq_true (by omega)]
    · rw [prB_true.2 ⟨pr_of_none h2 x (by omega) (by omega) h, hn⟩]; exact Ev.now _
  | succ d ih =>
    intro x hx hxn hd h
    have hb := mul_bd (show 0 ≤ x by omega) (show x ≤ 5000 by omega) (show 0 ≤ x by omega) (show x ≤ 5000 by omega)
    by_cases hle : x * x ≤ n
    · by_cases hdv : x ∣ n
      · have hlt : x < n := by
          have := sq_gt hx (Int.le_refl x); omega
        refine Ev.step (f := fun _ => some false) (fun k => ?_) ?_
        · rw [impl_prime.l0, w64 (by omega) (by omega), if_pos hle, if_neg (by omega), if_pos (Int.tmod_eq_zero_of_dvd hdv)]
        · rw [prB_false.2 fun hp => hp.1.2 x hx hlt hdv]; exact Ev.now _
      · have hlt : x < n := by
          have := sq_gt hx (Int.le_refl x); omega
        refine Ev.step (f := fun k => impl_prime.l0 k n (x + 1)) (fun k => ?_) (ih (x + 1) (by omega) (by omega) (by omega) ?_)
        · rw [impl_prime.l0, w64 (by omega) (by omega), if_pos hle, if_neg (by omega), if_neg (fun e => hdv (Int.dvd_of_tmod_eq_zero e)), w64 (by omega) (by omega)]
        · intro y h1 h2'
          by_cases e : y = x
          · subst e; exact hdv
          · exact h y h1 (by omega)
    · refine Ev.step (f := fun _ => some true) (fun k => ?_) ?_
      · rw [impl_prime.l0, w64 (by omega) (by omega), if_neg hle, decide_eq_true (by omega)]
      · rw [prB_true.2 ⟨pr_of_none h2 x (by omega) (by omega) h, hn⟩]; exact Ev.now _
theorem impl_PrimeIs_ev (n : Int) : Ev (fun k => impl_PrimeIs.f k n) (prB n) := by
  unfold impl_PrimeIs.f
  by_cases h5 : n ≤ 5000
  · simp only [if_pos h5]
    refine Ev.bind (a := prB n) ?_ (Ev.now _)
    unfold impl_prime.f
    by_cases h : 2 ≤ n
    · exact impl_prime_l0 h h5 (n - 2).toNat 2 (by omega) (by omega) (by omega) fun y h1 h2 => by omega
    · refine Ev.step (f := fun _ => some false) (fun k => ?_) ?_
      · rw [impl_prime.l0, w64 (by omega) (by omega), if_neg (by omega), decide_eq_false (by omega)]
      · rw [prB_false.2 fun hp => h hp.1.1]; exact Ev.now _
  · simp only [if_neg h5]
    rw [prB_false.2 fun hp => h5 hp.2]
    exact Ev.now _
theorem impl_PlaceValid_ev (n : Int) : Ev (fun k => impl_PlaceValid.f k n) (plB n) := by
  unfold impl_PlaceValid.f plB
  by_cases h : n = 0
  · simp only [if_pos h, h, decide_true, Bool.true_or]; exact Ev.now _
  · simp only [if_neg h, decide_eq_false h, Bool.false_or]
    exact Ev.bind (impl_PrimeIs_ev n) (Ev.now _)
theorem spec_l1Mod_eq {n m : Int} (h0 : 0 < m) (h1 : m ≤ 1000000000) : spec_l1Mod.f n m = some (n % m) := by
  unfold spec_l1Mod.f; rw [if_neg (by omega), rest_form h0 h1]
theorem impl_rest_eq {n m : Int} (h0 : 0 < m) (h1 : m ≤ 1000000000) : impl_rest.f n m = some (n % m) := by
  unfold impl_rest.f; rw [if_neg (by omega), rest_form h0 h1]
theorem impl_rootMod_l0 {n m : Int} (hm : 1 ≤ m) (hm' : m ≤ 5000) : ∀ (d : Nat) (x : Int), 0 ≤ x → x + d = m → Ev (fun k => impl_rootMod.l0 k n m m x) (two (srch (fun x => decide (x * x % m = n % m)) d x)) := by
  intro d
  induction d with
  | zero =>
    intro x h0 hd
    refine Ev.step (f := fun _ => some (0, false)) (fun k => ?_) (Ev.now _)
    rw [impl_rootMod.l0, if_neg (by omega)]
  | succ d ih =>
    intro x h0 hd
    have hb := mul_bd h0 (show x ≤ 5000 by omega) h0 (show x ≤ 5000 by omega)
    rw [srch]
    by_cases h : x * x % m = n % m
    · rw [if_pos (decide_eq_true h)]
      refine Ev.step (f := fun _ => some (x, true)) (fun k => ?_) (Ev.now _)
      rw [impl_rootMod.l0, if_pos (by omega), if_neg (by omega), impl_rest_eq (by omega) (by omega), Option.bind_some, w64 (by omega) (by omega), tm hb.1, if_pos h]
    · rw [if_neg (by simpa using h)]
      refine Ev.step (fun k => ?_) (ih (x + 1) (by omega) (by omega))
      rw [impl_rootMod.l0, if_pos (by omega), if_neg (by omega), impl_rest_eq (by omega) (by omega), Option.bind_some, w64 (x := x * x) (by omega) (by omega), tm hb.1, if_neg h, w64 (by omega) (by omega)]
theorem impl_rootMod_ev {n m : Int} (hm : 1 ≤ m) (hm' : m ≤ 5000) : Ev (fun k => impl_rootMod.f k n m) (two (rootS n m)) :=
  impl_rootMod_l0 hm hm' _ 0 (by omega) (by omega)
theorem impl_split_l0 {p : Int} (hp : 2 ≤ p) (hp' : p ≤ 1000000000000000) : ∀ (f : Nat) (n : Int), n ≠ 0 → n.natAbs ≤ f → n.natAbs ≤ 1000000000000000 → ∀ c : Int, 0 ≤ c → c + f ≤ 2000000000000000 → Ev (fun k => impl_split.l0 k n p c) (c + (spl f n p).1, (spl f n p).2) := by
  intro f
  induction f with
  | zero => intro n hn hf; omega
  | succ f ih =>
    intro n hn hf hb c hc hcf
    rw [spl]
    by_cases h : n % p = 0
    · obtain ⟨h1, h2, h3⟩ := div_smaller hp hn h
      rw [if_pos h]
      have := ih (n / p) h1 (by omega) (by omega) (c + 1) (by omega) (by omega)
      have e : c + (((spl f (n / p) p).1 + 1 : Nat) : Int) = c + 1 + ((spl f (n / p) p).1 : Int) := by omega
      show Ev (fun k => impl_split.l0 k n p c) (c + (((spl f (n / p) p).1 + 1 : Nat) : Int), (spl f (n / p) p).2)
      rw [e]
      refine Ev.step (fun k => ?_) this
      rw [impl_split.l0, if_neg (by omega), if_pos (tm_zero.2 h), td_dvd h, w64 (by omega) (by omega), w64 (by omega) (by omega)]
    · rw [if_neg h]
      refine Ev.step (f := fun _ => some (c, n)) (fun k => ?_) ?_
      · rw [impl_split.l0, if_neg (by omega), if_neg (fun e => h (tm_zero.1 e))]
      · have e : c + ((0 : Nat) : Int) = c := by omega
        show Ev _ (c + ((0 : Nat) : Int), n)
        rw [e]; exact Ev.now _
theorem impl_split_ev {n p : Int} (hp : 2 ≤ p) (hp' : p ≤ 1000000000000000) (hn : n ≠ 0) (hb : n.natAbs ≤ 1000000000000000) : Ev (fun k => impl_split.f k n p) ((vl n p : Int), un n p) := by
  have := impl_split_l0 hp hp' n.natAbs n hn (Nat.le_refl _) hb 0 (by omega) (by omega)
  rw [Int.zero_add] at this
  exact this
theorem impl_residue_l0 {n p : Int} (hp : Pr p) (h2 : p ≠ 2) (hp' : p ≤ 5000) (hn : ¬ p ∣ n) : ∀ (d : Nat) (x : Int), 1 ≤ x → x + d = p / 2 + 1 → (∀ y, 1 ≤ y → y < x → y * y % p ≠ n % p) → Ev (fun k => impl_residue.l0 k p (n % p) x) (leg n p) := by
  have h0 := hp.1
  intro d
  induction d with
  | zero =>
    intro x hx hd h
    have : leg n p = -1 := leg_neg hn (fun hr => by
      obtain ⟨y, h1, h3, h4⟩ := (isRes_half hp h2 hn).1 hr
      exact h y h1 (by omega) h4)
    rw [this]
    refine Ev.step (f := fun _ => some (-1)) (fun k => ?_) (Ev.now _)
    rw [impl_residue.l0, tdiv_half (by omega), w64 (by omega) (by omega), if_neg (by omega)]
  | succ d ih =>
    intro x hx hd h
    have hb := mul_bd (show 0 ≤ x by omega) (show x ≤ 5000 by omega) (show 0 ≤ x by omega) (show x ≤ 5000 by omega)
    by_cases e : x * x % p = n % p
    · have : leg n p = 1 := leg_one hn ((isRes_half hp h2 hn).2 ⟨x, hx, by omega, e⟩)
      rw [this]
      refine Ev.step (f := fun _ => some 1) (fun k => ?_) (Ev.now _)
      rw [impl_residue.l0, tdiv_half (by omega), w64 (x := p / 2) (by omega) (by omega), if_pos (by omega), if_neg (by omega), w64 (by omega) (by omega), tm hb.1, if_pos e]
    · refine Ev.step (fun k => ?_) (ih (x + 1) (by omega) (by omega) fun y h1 h3 => ?_)
      · rw [impl_residue.l0, tdiv_half (by omega), w64 (x := p / 2) (by omega) (by omega), if_pos (by omega), if_neg (by omega), w64 (x := x * x) (by omega) (by omega), tm hb.1, if_neg e, w64 (by omega) (by omega)]
      · by_cases e' : y = x
        · subst e'; exact e
        · exact h y h1 (by omega)
theorem impl_residue_ev {n p : Int} (hp : Pr p) (h2 : p ≠ 2) (hp' : p ≤ 5000) : Ev (fun k => impl_residue.f k n p) (leg n p) := by
  have h0 := hp.1
  unfold impl_residue.f
  simp only [impl_rest_eq (n := n) (show 0 < p by omega) (by omega), Option.bind_some]
  by_cases h : n % p = 0
  · simp only [if_pos h]; rw [leg_zero (Int.dvd_of_emod_eq_zero h)]; exact Ev.now _
  · simp only [if_neg h]
    exact impl_residue_l0 hp h2 hp' (fun hd => h (Int.emod_eq_zero_of_dvd hd)) (p / 2).toNat 1 (by omega) (by omega) (fun y h1 h3 => by omega)
theorem impl_localSquare_ev {n p : Int} (hp : Pl p) (hp' : p ≤ 5000) (hn : n ≠ 0) (hb : n.natAbs ≤ 1000000000000000) : Ev (fun k => impl_localSquare.f k n p) (lsq n p) := by
  unfold impl_localSquare.f
  rcases pl_cases hp with rfl | rfl | ⟨hq, h0, h2⟩
  · simp only [if_true]; rw [lsq_0]; exact Ev.now _
  · simp only [if_neg (show ¬ (2 : Int) = 0 by omega)]
    rw [lsq_2]
    refine Ev.bind (impl_split_ev (by omega) (by omega) hn hb) ?_
    simp only [tm (show (0 : Int) ≤ (vl n 2 : Int) by omega)]
    by_cases h : vl n 2 % 2 = 0
    · simp only [if_pos (show (vl n 2 : Int) % 2 = 0 by omega), if_pos h, if_true]
      rw [impl_rest_eq (by omega) (by omega), Option.bind_some, beq_decide]; exact Ev.now _
    · simp only [if_neg (show ¬ (vl n 2 : Int) % 2 = 0 by omega), if_neg h]; exact Ev.now _
  · simp only [if_neg h0]
    rw [lsq_p h0 h2]
    refine Ev.bind (impl_split_ev hq.1 (by omega) hn hb) ?_
    simp only [tm (show (0 : Int) ≤ (vl n p : Int) by omega)]
    by_cases h : vl n p % 2 = 0
    · simp only [if_pos (show (vl n p : Int) % 2 = 0 by omega), if_pos h, if_neg h2]
      refine Ev.bind (impl_residue_ev hq h2 hp') ?_
      rw [beq_decide]; exact Ev.now _
    · simp only [if_neg (show ¬ (vl n p : Int) % 2 = 0 by omega), if_neg h]; exact Ev.now _
theorem impl_LocalSquare_ev (n p : Int) : Ev (fun k => impl_LocalSquare.f k n p) (lsqOf n p) := by
  unfold impl_LocalSquare.f lsqOf
  simp only [impl_isNumber_eq, Option.bind_some]
  by_cases h0 : n = 0
  · simp only [if_pos h0]; simp [h0]; exact Ev.now _
  · simp only [if_neg h0]
    by_cases h : numB n = true
    · simp only [if_pos h]
      refine Ev.bind (impl_PlaceValid_ev p) ?_
      by_cases hpl : plB p = true
      · simp only [if_pos hpl]
        have hn := numB_true.1 h
        have hp := plB_pl hpl
        refine Ev.bind (impl_localSquare_ev hp.1 hp.2.2 h0 (by omega)) ?_
        simp [h0, h, hpl]; exact Ev.now _
      · simp only [if_neg hpl]; simp [hpl]; exact Ev.now _
    · simp only [if_neg h]; simp [h]; exact Ev.now _
theorem rd_pre (p : List Int) (a : Int) (l : List Int) : rd (p ++ a :: l) (p.length : Int) = a := by
  unfold rd
  rw [Int.toNat_natCast, List.getD_eq_getElem?_getD, List.getElem?_append_right (Nat.le_refl _)]
  simp
theorem set_pre (p : List Int) (a : Int) (l : List Int) (c : Int) : (p ++ a :: l).set ((p.length : Int)).toNat c = p ++ c :: l := by
  rw [Int.toNat_natCast, List.set_append_right _ _ (Nat.le_refl _)]
  simp
theorem spec_l6Open_eq {l : List Int} (h : ∀ x ∈ l, (Lit.int .u8 x).wf = true) : ∃ b, GB b ∧ spec_l6Open.f l = some (b, 0) := by
  unfold spec_l6Open.f
  by_cases h1 : (l.length : Int) > 2000
  · rw [if_pos h1, if_pos (by omega)]
    exact ⟨l.take 2000, ⟨by simp; omega, fun x hx => u8_bd (h x (List.mem_of_mem_take hx))⟩, rfl⟩
  · rw [if_neg h1]
    exact ⟨l, ⟨by omega, fun x hx => u8_bd (h x hx)⟩, rfl⟩
theorem rd_bd {b : List Int} (hb : GB b) (i : Int) : 0 ≤ rd b i ∧ rd b i ≤ 255 := by
  unfold rd
  rw [List.getD_eq_getElem?_getD]
  cases h : b[i.toNat]? with
  | none => simp
  | some x => exact hb.2 x (List.mem_of_getElem? h)
theorem pick_ev {b : List Int} (hb : GB b) {p n : Int} (hp : 0 ≤ p) (hp' : p ≤ 1000) (hn : 1 ≤ n) (hn' : n ≤ 1000) : ∃ v, 0 ≤ v ∧ v < n ∧ Ev (fun k => spec_l6Rd_pick.f k b p n) (v, p + 1) := by
  have hl := hb.1
  have e1 : wrap64 (p + 1) = p + 1 := w64 (by omega) (by omega)
  have e2 : wrap64 (p + 1 - 1) = p := by rw [w64 (by omega) (by omega)]; omega
  unfold spec_l6Rd_pick.f
  simp only [if_neg (show ¬ n < 1 by omega), e1]
  by_cases h0 : b.length = 0
  · refine ⟨0, by omega, by omega, Ev.step (f := fun _ => some (0, p + 1)) (fun k => ?_) (Ev.now _)⟩
    rw [spec_l6Rd_pick.j0, if_pos (by simp [h0])]
  · have hL : ((b.length : Int) == 0) = false := by rw [beq_eq_false_iff_ne]; omega
    rw [hL]
    by_cases h1 : p < (b.length : Int)
    · have hr := rd_bd hb p
      have m := emod_bd (rd b p) (show 0 < n by omega)
      refine ⟨rd b p % n, m.1, m.2, Ev.step (f := fun _ => some (rd b p % n, p + 1)) (fun k => ?_) (Ev.now _)⟩
      rw [spec_l6Rd_pick.j0, if_neg (by simp), e2, if_pos h1, if_pos hp, if_neg (by omega), w64 (x := rd b p) (by omega) (by omega), tm hr.1]
    · have m1 := emod_bd p (show (0 : Int) < b.length by omega)
      have t1 : Int.tmod p (b.length : Int) = p % (b.length : Int) := tm hp
      have e7 : wrap64 (wrap64 (p * 7) + 3) = p * 7 + 3 := by rw [w64 (x := p * 7) (by omega) (by omega), w64 (by omega) (by omega)]
      have t2 : Int.tmod (p * 7 + 3) (b.length : Int) = (p * 7 + 3) % (b.length : Int) := tm (by omega)
      have m2 := emod_bd (p * 7 + 3) (show (0 : Int) < b.length by omega)
      have r1 := rd_bd hb (p % (b.length : Int))
      have r2 := rd_bd hb ((p * 7 + 3) % (b.length : Int))
      have d1 : Int.tdiv p (b.length : Int) = p / (b.length : Int) := Int.tdiv_eq_ediv_of_nonneg hp
      have d2 : 0 ≤ p / (b.length : Int) ∧ p / (b.length : Int) ≤ p := ⟨Int.ediv_nonneg hp (by omega), Int.ediv_le_self _ hp⟩
      have key : ∃ v, 0 ≤ v ∧ v < n ∧ ∀ k, spec_l6Rd_pick.j0 (k + 1) n false b (p + 1) = some (v, p + 1) := by
        generalize hq1 : rd b (p % (b.length : Int)) = q1 at r1
        generalize hq2 : rd b ((p * 7 + 3) % (b.length : Int)) = q2 at r2
        generalize hq3 : p / (b.length : Int) = q3 at d1 d2
        have hx0 : 0 ≤ Go.bits .xor .i64 (q1 * 131 + q2 * 1117 + p * 29 + q3 * 53) ((q1 * 131 + q2 * 1117 + p * 29 + q3 * 53) / 64) := xor_nonneg (by omega) (by omega) (by omega) (by omega)
        refine ⟨_, (emod_bd (Go.bits .xor .i64 (q1 * 131 + q2 * 1117 + p * 29 + q3 * 53) ((q1 * 131 + q2 * 1117 + p * 29 + q3 * 53) / 64)) (show 0 < n by omega)).1, (emod_bd _ (show 0 < n by omega)).2, fun k => ?_⟩
        rw [spec_l6Rd_pick.j0, if_neg (by simp), e2, if_neg h1, if_neg (by omega), t1, if_pos m1.1, if_pos m1.2, e7, t2, if_pos m2.1, if_pos m2.2, if_neg (by omega), hq1, hq2, d1,
          w64 (x := q1) (by omega) (by omega), w64 (x := q2) (by omega) (by omega), w64 (x := q1 * 131) (by omega) (by omega), w64 (x := q2 * 1117) (by omega) (by omega), w64 (x := q1 * 131 + q2 * 1117) (by omega) (by omega),
          w64 (x := p * 29) (by omega) (by omega), w64 (x := q1 * 131 + q2 * 1117 + p * 29) (by omega) (by omega), w64 (x := q3) (by omega) (by omega), w64 (x := q3 * 53) (by omega) (by omega),
          w64 (x := q1 * 131 + q2 * 1117 + p * 29 + q3 * 53) (by omega) (by omega),
          Int.tdiv_eq_ediv_of_nonneg (a := q1 * 131 + q2 * 1117 + p * 29 + q3 * 53) (by omega), w64 (x := (q1 * 131 + q2 * 1117 + p * 29 + q3 * 53) / 64) (by omega) (by omega), tm hx0]
      obtain ⟨v, h2, h3, h4⟩ := key
      exact ⟨v, h2, h3, Ev.step (f := fun _ => some (v, p + 1)) h4 (Ev.now _)⟩
theorem l91Number_ev {b : List Int} (hb : GB b) {p : Int} (hp : 0 ≤ p) (hp' : p ≤ 500) : ∃ n q, DN n ∧ p ≤ q ∧ q ≤ p + 4 ∧ Ev (fun k => spec_l91Number.f k b p) (n, q) := by
  unfold spec_l91Number.f
  obtain ⟨v, a1, a2, a3⟩ := pick_ev hb (p := p) (n := 30) hp (by omega) (by omega) (by omega)
  by_cases h : v = 0
  · obtain ⟨u, b1, b2, b3⟩ := pick_ev hb (p := p + 1) (n := 6) (by omega) (by omega) (by omega) (by omega)
    have key : DN (rd [0, 5000, 5001, (-5001), 4096, 3969] u) := by
      have : u = 0 ∨ u = 1 ∨ u = 2 ∨ u = 3 ∨ u = 4 ∨ u = 5 := by omega
      rcases this with rfl | rfl | rfl | rfl | rfl | rfl <;> simp [DN, rd]
    refine ⟨_, p + 2, key, by omega, by omega, Ev.bind a3 ?_⟩
    simp only [if_pos h, Option.bind_some]
    refine Ev.bind b3 ?_
    simp only [if_pos b1]
    rw [if_pos (by simp; omega), show p + 1 + 1 = p + 2 by omega]
    exact Ev.now _
  · obtain ⟨u, b1, b2, b3⟩ := pick_ev hb (p := p + 1) (n := 40) (by omega) (by omega) (by omega) (by omega)
    obtain ⟨x, c1, c2, c3⟩ := pick_ev hb (p := p + 1 + 1) (n := 3) (by omega) (by omega) (by omega) (by omega)
    obtain ⟨s, d1, d2, d3⟩ := pick_ev hb (p := p + 1 + 1 + 1) (n := 2) (by omega) (by omega) (by omega) (by omega)
    have hux : 0 ≤ u * (1 + x) ∧ u * (1 + x) ≤ 117 := by
      have : x = 0 ∨ x = 1 ∨ x = 2 := by omega
      rcases this with rfl | rfl | rfl <;> omega
    by_cases hs : s = 0
    · refine ⟨-(1 + u * (1 + x)), p + 4, ?_, by omega, by omega, Ev.bind a3 ?_⟩
      · unfold DN; omega
      simp only [if_neg h]
      refine Ev.bind b3 (Ev.bind c3 (Ev.bind d3 ?_))
      simp only [if_pos hs]
      rw [w64 (x := 1 + x) (by omega) (by omega), w64 (x := u * (1 + x)) (by omega) (by omega), w64 (x := 1 + u * (1 + x)) (by omega) (by omega), w64 (x := -(1 + u * (1 + x))) (by omega) (by omega), show p + 1 + 1 + 1 + 1 = p + 4 by omega]
      exact Ev.now _
    · refine ⟨1 + u * (1 + x), p + 4, ?_, by omega, by omega, Ev.bind a3 ?_⟩
      · unfold DN; omega
      simp only [if_neg h]
      refine Ev.bind b3 (Ev.bind c3 (Ev.bind d3 ?_))
      simp only [if_neg hs]
      rw [w64 (x := 1 + x) (by omega) (by omega), w64 (x := u * (1 + x)) (by omega) (by omega), w64 (x := 1 + u * (1 + x)) (by omega) (by omega), show p + 1 + 1 + 1 + 1 = p + 4 by omega]
      exact Ev.now _
theorem l91Prime_ev {b : List Int} (hb : GB b) {p : Int} (hp : 0 ≤ p) (hp' : p ≤ 500) : ∃ n q, DP n ∧ p ≤ q ∧ q ≤ p + 4 ∧ Ev (fun k => spec_l91Prime.f k b p) (n, q) := by
  unfold spec_l91Prime.f
  obtain ⟨v, a1, a2, a3⟩ := pick_ev hb (p := p) (n := 24) hp (by omega) (by omega) (by omega)
  by_cases h : v = 0
  · obtain ⟨u, b1, b2, b3⟩ := pick_ev hb (p := p + 1) (n := 6) (by omega) (by omega) (by omega) (by omega)
    have key : DP (rd [0, 1, 4, (-3), 97, 9] u) := by
      have : u = 0 ∨ u = 1 ∨ u = 2 ∨ u = 3 ∨ u = 4 ∨ u = 5 := by omega
      rcases this with rfl | rfl | rfl | rfl | rfl | rfl <;> simp [DP, rd]
    refine ⟨_, p + 1 + 1, key, by omega, by omega, Ev.bind a3 ?_⟩
    simp only [if_pos h, Option.bind_some]
    refine Ev.bind b3 ?_
    simp only [if_pos b1]
    rw [if_pos (by simp; omega)]
    exact Ev.now _
  · obtain ⟨u, b1, b2, b3⟩ := pick_ev hb (p := p + 1) (n := 8) (by omega) (by omega) (by omega) (by omega)
    have key : DP (rd [2, 3, 5, 7, 11, 13, 3, 2] u) := by
      have : u = 0 ∨ u = 1 ∨ u = 2 ∨ u = 3 ∨ u = 4 ∨ u = 5 ∨ u = 6 ∨ u = 7 := by omega
      rcases this with rfl | rfl | rfl | rfl | rfl | rfl | rfl | rfl <;> simp [DP, rd]
    refine ⟨_, p + 1 + 1, key, by omega, by omega, Ev.bind a3 ?_⟩
    simp only [if_neg h, Option.bind_some]
    refine Ev.bind b3 ?_
    simp only [if_pos b1]
    rw [if_pos (by simp; omega)]
    exact Ev.now _
theorem l91Place_ev {b : List Int} (hb : GB b) {p : Int} (hp : 0 ≤ p) (hp' : p ≤ 400) : ∃ n q, DP n ∧ p ≤ q ∧ q ≤ p + 5 ∧ Ev (fun k => spec_l91Place.f k b p) (n, q) := by
  unfold spec_l91Place.f
  obtain ⟨v, a1, a2, a3⟩ := pick_ev hb (p := p) (n := 5) hp (by omega) (by omega) (by omega)
  by_cases h : v = 0
  · refine ⟨0, p + 1, by simp [DP], by omega, by omega, Ev.bind a3 ?_⟩
    simp only [if_pos h]; exact Ev.now _
  · obtain ⟨n, q, b1, b2, b3, b4⟩ := l91Prime_ev hb (p := p + 1) (by omega) (by omega)
    refine ⟨n, q, b1, by omega, by omega, Ev.bind a3 ?_⟩
    simp only [if_neg h]
    exact Ev.bind b4 (Ev.now _)
theorem l91Local_ev {b : List Int} (hb : GB b) {p : Int} (hp : 0 ≤ p) (hp' : p ≤ 300) : ∃ n pl q, DL n ∧ DP pl ∧ p ≤ q ∧ q ≤ p + 12 ∧ Ev (fun k => spec_l91Local.f k b p) (n, pl, q) := by
  unfold spec_l91Local.f
  obtain ⟨n, q, n1, n2, n3, n4⟩ := l91Number_ev hb hp (by omega)
  obtain ⟨v, a1, a2, a3⟩ := pick_ev hb (p := q) (n := 3) (by omega) (by omega) (by omega) (by omega)
  by_cases h : v = 0
  · obtain ⟨x, b1, b2, b3⟩ := pick_ev hb (p := q + 1) (n := 9) (by omega) (by omega) (by omega) (by omega)
    obtain ⟨y, c1, c2, c3⟩ := pick_ev hb (p := q + 1 + 1) (n := 3) (by omega) (by omega) (by omega) (by omega)
    obtain ⟨pl, r, d1, d2, d3, d4⟩ := l91Place_ev hb (p := q + 1 + 1 + 1) (by omega) (by omega)
    have hx := mul_bd (show 0 ≤ 1 + x by omega) (show 1 + x ≤ 9 by omega) (show 0 ≤ 1 + x by omega) (show 1 + x ≤ 9 by omega)
    have hx1 : 1 ≤ (1 + x) * (1 + x) := by have := Int.mul_le_mul (show (1 : Int) ≤ 1 + x by omega) (show (1 : Int) ≤ 1 + x by omega) (by omega) (by omega); omega
    generalize hxx : (1 + x) * (1 + x) = s at hx hx1
    have hs : 1 ≤ s * (1 + y * 8) ∧ s * (1 + y * 8) ≤ 1377 := by
      have : y = 0 ∨ y = 1 ∨ y = 2 := by omega
      rcases this with rfl | rfl | rfl <;> omega
    refine ⟨s * (1 + y * 8), pl, r, Or.inr hs, d1, by omega, by omega, Ev.bind n4 (Ev.bind a3 ?_)⟩
    simp only [if_pos h]
    refine Ev.bind b3 (Ev.bind c3 (Ev.bind d4 ?_))
    rw [w64 (x := 1 + x) (by omega) (by omega), hxx, w64 (x := s) (by omega) (by omega), w64 (x := y * 8) (by omega) (by omega), w64 (x := 1 + y * 8) (by omega) (by omega), w64 (x := s * (1 + y * 8)) (by omega) (by omega)]
    exact Ev.now _
  · obtain ⟨pl, r, d1, d2, d3, d4⟩ := l91Place_ev hb (p := q + 1) (by omega) (by omega)
    refine ⟨n, pl, r, Or.inl n1, d1, by omega, by omega, Ev.bind n4 (Ev.bind a3 ?_)⟩
    simp only [if_neg h]
    exact Ev.bind d4 (Ev.now _)
theorem impl_LocalRoot_l0 {n p c : Int} (hn : numB n = true) (hp : prB p = true) (hc : 1 ≤ c) : ∀ (d i : Nat), i + d = 13 → (i : Int) ≤ c → p ^ i ≤ 5000 → Ev (fun k => impl_LocalRoot.l0 k n p (p ^ i) c i) (lrootOf n p c) := by
  have hpp := prB_true.1 hp
  have h2 := hpp.1.1
  intro d
  induction d with
  | zero =>
    intro i hd hi h5
    have h1 := pow_ge_two h2 i
    have h3 : (2 : Int) ^ i = 8192 := by have : i = 13 := by omega
                                         subst this; decide
    omega
  | succ d ih =>
    intro i hd hi h5
    have hpos := pow_pos' (show 1 ≤ p by omega) i
    have m := mul_bd (show 0 ≤ p ^ i by omega) h5 (show 0 ≤ p by omega) hpp.2
    have hsucc : p ^ (i + 1) = p ^ i * p := Int.pow_succ ..
    by_cases hlt : (i : Int) < c
    · by_cases hbig : p ^ i * p > 5000
      · have : lrootOf n p c = (0, false) := by
          unfold lrootOf
          rw [if_neg (fun g => ?_)]
          have := pow_mono (show 1 ≤ p by omega) (show i + 1 ≤ c.toNat by omega)
          omega
        rw [this]
        refine Ev.step (f := fun _ => some (0, false)) (fun k => ?_) (Ev.now _)
        rw [impl_LocalRoot.l0, if_pos hlt, w64 (x := p ^ i * p) (by omega) (by omega), if_pos hbig]
      · refine Ev.step (fun k => ?_) (ih (i + 1) (by omega) (by omega) (by omega))
        rw [impl_LocalRoot.l0, if_pos hlt, w64 (x := p ^ i * p) (by omega) (by omega), if_neg hbig, w64 (x := (i : Int) + 1) (by omega) (by omega), ← hsucc]
        rfl
    · have e : c.toNat = i := by omega
      have : lrootOf n p c = two (rootS n (p ^ i)) := by
        unfold lrootOf
        rw [if_pos ⟨hn, hp, by omega, by omega, by rw [e]; exact h5⟩, e]
      rw [this]
      refine Ev.step (f := fun k => (impl_rootMod.f k n (p ^ i)).bind fun bt => some (bt.1, bt.2)) (fun k => ?_) (Ev.bind (impl_rootMod_ev (by omega) h5) (Ev.now _))
      rw [impl_LocalRoot.l0, if_neg hlt]
theorem impl_LocalRoot_no (n p c : Int) : Ev (fun k => impl_LocalRoot.j0 k n p c true) (0, false) := by
  refine Ev.step (f := fun _ => some (0, false)) (fun k => ?_) (Ev.now _)
  rw [impl_LocalRoot.j0, if_pos rfl]
theorem impl_LocalRoot_ev (n p c : Int) : Ev (fun k => impl_LocalRoot.f k n p c) (lrootOf n p c) := by
  unfold impl_LocalRoot.f
  simp only [impl_isNumber_eq, Option.bind_some]
  by_cases h : numB n = true
  · simp only [if_pos h]
    refine Ev.bind (impl_PrimeIs_ev p) ?_
    by_cases hp : prB p = true
    · simp only [if_pos hp]
      by_cases hc : c < 1
      · have : lrootOf n p c = (0, false) := by unfold lrootOf; rw [if_neg (by omega)]
        rw [decide_eq_true hc, this]; exact impl_LocalRoot_no ..
      · rw [decide_eq_false hc]
        refine Ev.step (fun k => by rw [impl_LocalRoot.j0, if_neg (by simp)]) ?_
        have := impl_LocalRoot_l0 h hp (show 1 ≤ c by omega) 13 0 (by omega) (by omega) (by rw [Int.pow_zero]; omega)
        rw [Int.pow_zero] at this
        exact this
    · have : lrootOf n p c = (0, false) := by unfold lrootOf; rw [if_neg (fun g => hp g.2.1)]
      simp only [if_neg hp]; rw [this]; exact impl_LocalRoot_no ..
  · have : lrootOf n p c = (0, false) := by unfold lrootOf; rw [if_neg (fun g => h g.1)]
    simp only [if_neg h]; rw [this]; exact impl_LocalRoot_no ..
theorem rd_at (p : List Int) (a : Int) (l : List Int) : rd (p ++ a :: l) (p.length : Int) = a := by
  unfold rd
  rw [Int.toNat_natCast, List.getD_eq_getElem?_getD, List.getElem?_append_right (Nat.le_refl _)]
  simp
theorem spec_l2Lift_l2 {n p K P i t : Int} {r : List Int} (hn : -5000 ≤ n) (hn' : n ≤ 5000) (hp : 2 ≤ p) (hP : 1 ≤ P) (hM : P * p ≤ 5000) (hP' : P ≤ 5000) (ht : 0 ≤ t) (ht' : t < p) :
    ∀ (l pre acc : List Int), (∀ x ∈ pre ++ l, 0 ≤ x ∧ x < P) → acc.length + l.length ≤ 1000000 → pre.length + l.length ≤ 1000000 → Ev (fun k => spec_l2Lift.l1 k n p K (pre ++ l) P i (acc ++ pickL n (P * p) (t * P) l) (wrap64 (t + 1))) r → Ev (fun k => spec_l2Lift.l2 k n p K (pre ++ l) P i acc t pre.length) r := by
  have m1 := mul_bd ht (show t ≤ p - 1 by omega) (show 0 ≤ P by omega) (Int.le_refl P)
  have e1 : (p - 1) * P = P * p - P := by grind
  intro l
  induction l with
  | nil =>
    intro pre acc hb ha hpl h
    refine Ev.step (fun k => ?_) h
    rw [spec_l2Lift.l2, if_neg (by simp), pickL, List.append_nil acc]
  | cons x l ih =>
    intro pre acc hb ha hpl h
    simp only [List.length_cons] at ha hpl
    have hx := hb x (by simp)
    have hrd : rd (pre ++ x :: l) (pre.length : Int) = x := rd_at ..
    have m2 := mul_bd (show 0 ≤ x + t * P by omega) (show x + t * P ≤ 5000 by omega) (show 0 ≤ x + t * P by omega) (show x + t * P ≤ 5000 by omega)
    have hpos : 0 < P * p := Int.mul_pos (by omega) (by omega)
    have hb' : ∀ y ∈ (pre ++ [x]) ++ l, 0 ≤ y ∧ y < P := fun y hy => hb y (by simpa using hy)
    have e2 : pre ++ x :: l = (pre ++ [x]) ++ l := by simp
    have wx : wrap64 (rd (pre ++ x :: l) (pre.length : Int) + wrap64 (t * P)) = x + t * P := by
      rw [hrd, w64 (x := t * P) (by omega) (by omega), w64 (by omega) (by omega)]
    by_cases hq : ((x + t * P) * (x + t * P) - n) % (P * p) = 0
    · have := ih (pre ++ [x]) (acc ++ [x + t * P]) hb' (by simp; omega) (by simp; omega) (by
        rw [pickL, if_pos hq] at h
        rw [← e2, List.append_assoc]; exact h)
      rw [List.length_append, ← e2] at this
      refine Ev.step (fun k => ?_) this
      rw [spec_l2Lift.l2, if_pos (by simp; omega), if_pos (by omega), wx, w64 (x := (x + t * P) * (x + t * P)) (by omega) (by omega), w64 (x := (x + t * P) * (x + t * P) - n) (by omega) (by omega), w64 (x := P * p) (by omega) (by omega), spec_l1Mod_eq hpos (by omega)]
      simp only [Option.bind_some]
      rw [if_pos hq, if_pos (by omega), w64 (x := (pre.length : Int) + 1) (by omega) (by omega)]
      rfl
    · have := ih (pre ++ [x]) acc hb' (by omega) (by simp; omega) (by
        rw [pickL, if_neg hq] at h
        rw [← e2]; exact h)
      rw [List.length_append, ← e2] at this
      refine Ev.step (fun k => ?_) this
      rw [spec_l2Lift.l2, if_pos (by simp; omega), if_pos (by omega), wx, w64 (x := (x + t * P) * (x + t * P)) (by omega) (by omega), w64 (x := (x + t * P) * (x + t * P) - n) (by omega) (by omega), w64 (x := P * p) (by omega) (by omega), spec_l1Mod_eq hpos (by omega)]
      simp only [Option.bind_some]
      rw [if_neg hq, w64 (x := (pre.length : Int) + 1) (by omega) (by omega)]
      rfl
theorem spec_l2Lift_l1 {n p K P i : Int} {r roots : List Int} (hn : -5000 ≤ n) (hn' : n ≤ 5000) (hp : 2 ≤ p) (hP : 1 ≤ P) (hM : P * p ≤ 5000) (hP' : P ≤ 5000) (hr : ∀ x ∈ roots, 0 ≤ x ∧ x < P) (hl : roots.length ≤ 5000) :
    ∀ (d : Nat) (t : Int) (acc : List Int), 0 ≤ t → t + d = p → acc.length + d * roots.length ≤ 1000000 → Ev (fun k => spec_l2Lift.l0 k n p K (acc ++ liftStep n P p roots d t) (wrap64 (P * p)) (wrap64 (i + 1))) r → Ev (fun k => spec_l2Lift.l1 k n p K roots P i acc t) r := by
  have hpb : p ≤ 5000 := by
    have := Int.mul_le_mul_of_nonneg_right hP (show 0 ≤ p by omega); omega
  intro d
  induction d with
  | zero =>
    intro t acc ht hd hb h
    refine Ev.step (fun k => ?_) h
    rw [spec_l2Lift.l1, if_neg (by omega), liftStep, List.append_nil]
  | succ d ih =>
    intro t acc ht hd hb h
    rw [Nat.succ_mul] at hb
    have hpk := pickL_length (n := n) (M := P * p) (s := t * P) roots
    refine Ev.step (f := fun k => spec_l2Lift.l2 k n p K roots P i acc t 0) (fun k => by rw [spec_l2Lift.l1, if_pos (by omega)]) ?_
    refine spec_l2Lift_l2 hn hn' hp hP hM hP' ht (by omega) roots [] acc hr (by omega) (by simp; omega) ?_
    rw [w64 (x := t + 1) (by omega) (by omega)]
    refine ih (t + 1) _ (by omega) (by omega) (by rw [List.length_append]; omega) ?_
    rw [liftStep] at h
    rw [List.append_assoc]; exact h
theorem spec_l2Lift_l0 {n p : Int} {K : Nat} (hn : -5000 ≤ n) (hn' : n ≤ 5000) (hp : 2 ≤ p) (hK : p ^ K ≤ 5000) (hK' : K ≤ 100) : ∀ (d i : Nat), i + d = K → Ev (fun k => spec_l2Lift.l0 k n p K (liftL n p i) (p ^ i) i) (liftL n p K) := by
  have hpn : p.toNat = p := Int.toNat_of_nonneg (by omega)
  have lenb : ∀ i : Nat, i ≤ K → (liftL n p i).length ≤ 5000 := by
    intro i hi
    have h1 := liftL_length (n := n) (p := p) i
    have h2 := pow_mono (show 1 ≤ p by omega) hi
    have h3 : ((p.toNat ^ i : Nat) : Int) = p ^ i := by rw [Int.natCast_pow, hpn]
    omega
  intro d
  induction d with
  | zero =>
    intro i hi
    have : i = K := by omega
    subst this
    refine Ev.step (f := fun _ => some (liftL n p i)) (fun k => ?_) (Ev.now _)
    rw [spec_l2Lift.l0, if_neg (by omega)]
  | succ d ih =>
    intro i hi
    have hpos := pow_pos' (show 1 ≤ p by omega) i
    have h1 := pow_mono (show 1 ≤ p by omega) (show i + 1 ≤ K by omega)
    have h2 := pow_mono (show 1 ≤ p by omega) (show i ≤ K by omega)
    have hsucc : p ^ (i + 1) = p ^ i * p := Int.pow_succ ..
    have hpos1 := pow_pos' (show 1 ≤ p by omega) (i + 1)
    have hpb : p ≤ 5000 := by
      have := Int.mul_le_mul_of_nonneg_right hpos (show 0 ≤ p by omega); omega
    have hmul : p.toNat * (liftL n p i).length ≤ 1000000 := by
      have h4 := Nat.mul_le_mul_left p.toNat (liftL_length (n := n) (p := p) i)
      have h5 : ((p.toNat * p.toNat ^ i : Nat) : Int) = p ^ i * p := by
        rw [Int.natCast_mul, Int.natCast_pow, hpn, Int.mul_comm]
      omega
    refine Ev.step (f := fun k => spec_l2Lift.l1 k n p K (liftL n p i) (p ^ i) i [] 0) (fun k => by rw [spec_l2Lift.l0, if_pos (by omega)]) ?_
    refine spec_l2Lift_l1 hn hn' hp hpos (by omega) (by omega) (fun x hx => ?_) (lenb i (by omega)) p.toNat 0 [] (by omega) (by omega) (by simpa using hmul) ?_
    · have := (mem_liftL hp).1 hx
      exact ⟨this.1, this.2.1⟩
    · rw [List.nil_append, w64 (x := p ^ i * p) (by omega) (by omega), w64 (x := (i : Int) + 1) (by omega) (by omega), ← hsucc]
      exact ih (i + 1) (by omega)
theorem spec_l2Lift_ev {n p : Int} {K : Nat} (hn : -5000 ≤ n) (hn' : n ≤ 5000) (hp : 2 ≤ p) (hK : p ^ K ≤ 5000) (hK' : K ≤ 100) : Ev (fun k => spec_l2Lift.f k n p K) (liftL n p K) := by
  have := spec_l2Lift_l0 hn hn' hp hK hK' K 0 (by omega)
  rw [Int.pow_zero] at this
  exact this
theorem spec_LocalRoot_l1 : ∀ (l pre : List Int) (b : Int), (pre ++ l).length ≤ 1000000 → Ev (fun k => spec_LocalRoot.l1 k (pre ++ l) b pre.length) (minL b l, true) := by
  intro l
  induction l with
  | nil =>
    intro pre b hb
    refine Ev.step (f := fun _ => some (b, true)) (fun k => ?_) (Ev.now _)
    rw [spec_LocalRoot.l1, if_neg (by simp)]
  | cons x l ih =>
    intro pre b hb
    have := ih (pre ++ [x]) (if b ≤ x then b else x) (by simpa using hb)
    simp only [List.append_assoc, List.singleton_append, List.length_append, List.length_singleton] at this
    simp only [List.length_append, List.length_cons] at hb
    have hm : mn b x = if b ≤ x then b else x := by
      unfold mn
      by_cases h : x < b
      · rw [if_pos h, if_neg (by omega)]
      · rw [if_neg h, if_pos (by omega)]
    rw [minL]
    refine Ev.step (fun k => ?_) this
    rw [spec_LocalRoot.l1, if_pos (by simp; omega), if_pos (by omega), rd_at, hm, w64 (by omega) (by omega)]
    rfl
theorem spec_LocalRoot_l0 {n p : Int} {K : Nat} (hn : numB n = true) (hp : prB p = true) (h1 : 1 ≤ K) (h12 : K ≤ 12) : ∀ (d i : Nat), i + d = K → Ev (fun k => spec_LocalRoot.l0 k n p K (if p ^ i ≤ 5000 then p ^ i else 5001) i) (lrootOf n p K) := by
  have hpp := prB_true.1 hp
  have h2 := hpp.1.1
  have hnn := numB_true.1 hn
  intro d
  induction d with
  | zero =>
    intro i hi
    have : i = K := by omega
    subst this
    have hpos := pow_pos' (show 1 ≤ p by omega) i
    by_cases h5 : p ^ i ≤ 5000
    · rw [if_pos h5]
      have hv : lrootOf n p i = two (rootS n (p ^ i)) := by
        unfold lrootOf
        rw [if_pos ⟨hn, hp, by omega, by omega, by rw [Int.toNat_natCast]; exact h5⟩, Int.toNat_natCast]
      rw [hv]
      refine Ev.step (f := fun k => (spec_l2Lift.f k n p i).bind fun t => if (t.length : Int) = 0 then some (0, false) else if 0 < (t.length : Int) then spec_LocalRoot.l1 k t (rd t 0) 0 else none) (fun k => ?_) (Ev.bind (spec_l2Lift_ev hnn.1 hnn.2 h2 h5 (by omega)) ?_)
      · rw [spec_LocalRoot.l0, if_neg (by omega), if_neg (by omega)]
      · have hlen : (liftL n p i).length ≤ 5000 := by
          have h1 := liftL_length (n := n) (p := p) i
          have h3 : ((p.toNat ^ i : Nat) : Int) = p ^ i := by rw [Int.natCast_pow, Int.toNat_of_nonneg (by omega)]
          omega
        match hL : liftL n p i with
        | [] => rw [no_root h2 hL]; simp only [List.length_nil]; exact Ev.now _
        | b :: l =>
          rw [min_root h2 hL]
          rw [hL] at hlen
          simp only [if_neg (show ¬ ((b :: l).length : Int) = 0 by rw [List.length_cons]; omega), if_pos (show 0 < ((b :: l).length : Int) by rw [List.length_cons]; omega)]
          exact spec_LocalRoot_l1 (b :: l) [] b (by simp at hlen ⊢; omega)
    · rw [if_neg h5]
      have hv : lrootOf n p i = (0, false) := by
        unfold lrootOf
        rw [if_neg (fun g => h5 (by have := g.2.2.2.2; rwa [Int.toNat_natCast] at this))]
      rw [hv]
      refine Ev.step (f := fun _ => some (0, false)) (fun k => ?_) (Ev.now _)
      rw [spec_LocalRoot.l0, if_neg (by omega), if_pos (by omega)]
  | succ d ih =>
    intro i hi
    have hpos := pow_pos' (show 1 ≤ p by omega) i
    have hsucc : p ^ (i + 1) = p ^ i * p := Int.pow_succ ..
    refine Ev.step (fun k => ?_) (ih (i + 1) (by omega))
    have key : mn (wrap64 ((if p ^ i ≤ 5000 then p ^ i else 5001) * p)) 5001 = if p ^ (i + 1) ≤ 5000 then p ^ (i + 1) else 5001 := by
      rw [hsucc]
      by_cases h5 : p ^ i ≤ 5000
      · rw [if_pos h5]
        have m := mul_bd (show 0 ≤ p ^ i by omega) h5 (show 0 ≤ p by omega) hpp.2
        rw [w64 (by omega) (by omega)]
        unfold mn
        by_cases h6 : p ^ i * p ≤ 5000
        · rw [if_pos h6, if_neg (by omega)]
        · rw [if_neg h6]; split <;> omega
      · rw [if_neg h5]
        have m := Int.mul_le_mul_of_nonneg_left (show 1 ≤ p by omega) (show 0 ≤ p ^ i by omega)
        have m2 := mul_bd (show (0 : Int) ≤ 5001 by omega) (Int.le_refl 5001) (show 0 ≤ p by omega) hpp.2
        rw [w64 (by omega) (by omega), if_neg (by omega)]
        unfold mn
        rw [if_pos (by omega)]
    rw [spec_LocalRoot.l0, if_pos (by omega), key, w64 (x := (i : Int) + 1) (by omega) (by omega)]
    rfl
theorem spec_LocalRoot_no (n p c : Int) : Ev (fun k => spec_LocalRoot.j0 k n p c true) (0, false) := by
  refine Ev.step (f := fun _ => some (0, false)) (fun k => ?_) (Ev.now _)
  rw [spec_LocalRoot.j0, if_pos rfl]
theorem spec_LocalRoot_ev (n p c : Int) : Ev (fun k => spec_LocalRoot.f k n p c) (lrootOf n p c) := by
  unfold spec_LocalRoot.f
  simp only [spec_l1Number_eq, spec_l6In_eq, Option.bind_some]
  by_cases h : numB n = true
  · simp only [if_pos h]
    refine Ev.bind (spec_PrimeIs_ev p) ?_
    by_cases hp : prB p = true
    · simp only [if_pos hp]
      by_cases hc : 1 ≤ c ∧ c ≤ 12
      · rw [decide_eq_true hc]
        refine Ev.step (fun k => by rw [spec_LocalRoot.j0, if_neg (by simp)]) ?_
        have := spec_LocalRoot_l0 (K := c.toNat) h hp (by omega) (by omega) c.toNat 0 (by omega)
        rw [Int.pow_zero, if_pos (by omega), Int.toNat_of_nonneg (by omega)] at this
        exact this
      · have : lrootOf n p c = (0, false) := by unfold lrootOf; rw [if_neg (fun g => hc ⟨g.2.2.1, g.2.2.2.1⟩)]
        rw [decide_eq_false hc, this]; exact spec_LocalRoot_no ..
    · have : lrootOf n p c = (0, false) := by unfold lrootOf; rw [if_neg (fun g => hp g.2.1)]
      simp only [if_neg hp]; rw [this]; exact spec_LocalRoot_no ..
  · have : lrootOf n p c = (0, false) := by unfold lrootOf; rw [if_neg (fun g => h g.1)]
    simp only [if_neg h]; rw [this]; exact spec_LocalRoot_no ..
theorem DrawLocalRoot_ev {l : List Int} (h : ∀ x ∈ l, (Lit.int .u8 x).wf = true) : ∃ n p c, DL n ∧ DP p ∧ (0 ≤ c ∧ c ≤ 13) ∧ Ev (fun k => spec_DrawLocalRoot.f k l) (n, p, c) := by
  obtain ⟨bs, hb, e⟩ := spec_l6Open_eq h
  unfold spec_DrawLocalRoot.f
  simp only [e, Option.bind_some]
  obtain ⟨n, pl, q, a1, a2, a3, a4, a5⟩ := l91Local_ev hb (p := 0) (by omega) (by omega)
  obtain ⟨p, r, b1, b2, b3, b4⟩ := l91Prime_ev hb (p := q) (by omega) (by omega)
  obtain ⟨u, c1, c2, c3⟩ := pick_ev hb (p := r) (n := 6) (by omega) (by omega) (by omega) (by omega)
  obtain ⟨v, d1, d2, d3⟩ := pick_ev hb (p := r + 1) (n := 16) (by omega) (by omega) (by omega) (by omega)
  have t : Int.tdiv v 15 = v / 15 := Int.tdiv_eq_ediv_of_nonneg d1
  refine ⟨n, p, u + v / 15 * 8, a1, b1, ⟨by omega, by omega⟩, Ev.bind a5 (Ev.bind b4 (Ev.bind c3 (Ev.bind d3 ?_)))⟩
  rw [t, w64 (x := v / 15) (by omega) (by omega), w64 (x := v / 15 * 8) (by omega) (by omega), w64 (x := u + v / 15 * 8) (by omega) (by omega)]
  exact Ev.now _
theorem restOf_eq {n m : Int} (h0 : 0 < m) (h1 : m ≤ 1000000000) : laws_restOf.f n m = some (n % m) := by
  unfold laws_restOf.f; rw [if_neg (by omega), rest_form h0 h1]
theorem FnRootLift_l0 {n p : Int} {K : Nat} (hn : numB n = true) (hp : prB p = true) (h2 : p ≠ 2) (h1 : 1 ≤ K) (h12 : K ≤ 12) (hu : ¬ p ∣ n) (hr : IsRes p n) : ∀ (d i : Nat), i + d = K + 1 → Ev (fun k => laws_FnRootLift.l0 k n p K (if p ^ i ≤ 5000 then p ^ i else 5001) i) true := by
  have hpp := prB_true.1 hp
  have hp2 := hpp.1.1
  have hnn := numB_true.1 hn
  have hn0 : n ≠ 0 := fun e => hu (e ▸ Int.dvd_zero p)
  have hp0 : p ≠ 0 := by omega
  have hlsq : lsqOf n p = true := by
    unfold lsqOf
    rw [decide_eq_true hn0, hn, plB_true.2 (Or.inr hpp), lsq_p hp0 h2]
    have hv := vl_unit hp2 hu
    rw [hv.1, hv.2, if_pos (by rfl), decide_eq_true (leg_one hu hr)]; rfl
  intro d
  induction d with
  | zero =>
    intro i hi
    have hpos := pow_pos' (show 1 ≤ p by omega) i
    refine Ev.step (fun k => by rw [laws_FnRootLift.l0, if_neg (by omega), w64 (x := (K : Int) + 1) (by omega) (by omega)]) ?_
    refine Ev.bind (impl_LocalRoot_ev n p ((K : Int) + 1)) (Ev.bind (impl_LocalSquare_ev n p) ?_)
    rw [hlsq]
    simp only [if_true]
    have e : ((K : Int) + 1).toNat = i := by omega
    by_cases h5 : p ^ i ≤ 5000
    · have h3 := pow_ge_two hp2 i
      have hi12 : i ≤ 12 := by
        rcases Nat.lt_or_ge 12 i with h | h
        · have h4 := pow_mono (show (1 : Int) ≤ 2 by omega) (show 13 ≤ i by omega)
          have h6 : (2 : Int) ^ 13 = 8192 := by decide
          omega
        · exact h
      obtain ⟨x, hx⟩ := hensel hpp.1 h2 hu hr K
      have hiK : i = K + 1 := by omega
      rw [← hiK] at hx
      obtain ⟨r, hrr⟩ := rootS_some hpos hx
      obtain ⟨s1, s2, s3⟩ := rootS_spec hpos hrr
      have hv : lrootOf n p ((K : Int) + 1) = (r, true) := by
        unfold lrootOf; rw [e, if_pos ⟨hn, hp, by omega, by omega, h5⟩, hrr]; rfl
      have m1 := mul_bd s1 (show r ≤ 5000 by omega) s1 (show r ≤ 5000 by omega)
      rw [hv]
      simp only [if_pos h5, if_neg (show ¬ p ^ i > 5000 by omega), if_true, w64 (x := r * r) (by omega) (by omega), w64 (x := r * r - n) (by omega) (by omega), restOf_eq (n := r * r - n) (m := p ^ i) (by omega) (by omega), Option.bind_some, Int.emod_eq_zero_of_dvd s3, beq_self_eq_true]
      exact Ev.now _
    · have hv : lrootOf n p ((K : Int) + 1) = (0, false) := by
        unfold lrootOf; rw [e, if_neg (fun g => h5 g.2.2.2.2)]
      rw [hv]
      simp only [if_neg h5, if_pos (show (5001 : Int) > 5000 by omega), Bool.false_eq_true, if_false]
      exact Ev.now _
  | succ d ih =>
    intro i hi
    have hpos := pow_pos' (show 1 ≤ p by omega) i
    have hsucc : p ^ (i + 1) = p ^ i * p := Int.pow_succ ..
    refine Ev.step (fun k => ?_) (ih (i + 1) (by omega))
    have key : mn (wrap64 ((if p ^ i ≤ 5000 then p ^ i else 5001) * p)) 5001 = if p ^ (i + 1) ≤ 5000 then p ^ (i + 1) else 5001 := by
      rw [hsucc]
      by_cases h5 : p ^ i ≤ 5000
      · rw [if_pos h5]
        have m := mul_bd (show 0 ≤ p ^ i by omega) h5 (show 0 ≤ p by omega) hpp.2
        rw [w64 (by omega) (by omega)]
        unfold mn
        by_cases h6 : p ^ i * p ≤ 5000
        · rw [if_pos h6, if_neg (by omega)]
        · rw [if_neg h6]; split <;> omega
      · rw [if_neg h5]
        have m := Int.mul_le_mul_of_nonneg_left (show 1 ≤ p by omega) (show 0 ≤ p ^ i by omega)
        have m2 := mul_bd (show (0 : Int) ≤ 5001 by omega) (Int.le_refl 5001) (show 0 ≤ p by omega) hpp.2
        rw [w64 (by omega) (by omega), if_neg (by omega)]
        unfold mn
        rw [if_pos (by omega)]
    rw [laws_FnRootLift.l0, if_pos (by omega), key, w64 (x := (i : Int) + 1) (by omega) (by omega)]
    rfl
theorem FnRootLift : laws_FnRootLift.Pure := by
  intro l _ _ hl
  refine Ev.rounds ?_
  unfold laws_FnRootLift.f
  by_cases hlen : (l.length : Int) > 1048576
  · simp only [if_pos hlen]; exact Ev.now _
  · simp only [if_neg hlen]
    obtain ⟨n, p, c, dn, dp, dc, hev⟩ := DrawLocalRoot_ev hl
    refine Ev.bind hev (Ev.bind (impl_LocalRoot_ev n p c) (Ev.bind (spec_LocalRoot_ev n p c) ?_))
    simp only [bne_self_eq_false, if_true, Bool.false_eq_true, if_false]
    cases hok : (lrootOf n p c).2 with
    | false =>
      refine Ev.step (f := fun _ => some true) (fun k => ?_) (Ev.now _)
      rw [laws_FnRootLift.j0, if_pos (by simp), if_pos (by simp), beq_self_eq_true]
    | true =>
      have hc : numB n = true ∧ prB p = true ∧ 1 ≤ c ∧ c ≤ 12 ∧ p ^ c.toNat ≤ 5000 := by
        refine Classical.byContradiction fun hc => ?_
        unfold lrootOf at hok; rw [if_neg hc] at hok; cases hok
      have hi : lrootOf n p c = two (rootS n (p ^ c.toNat)) := by unfold lrootOf; rw [if_pos hc]
      obtain ⟨r, hr⟩ : ∃ r, rootS n (p ^ c.toNat) = some r := by
        cases h : rootS n (p ^ c.toNat) with
        | none => rw [hi, h] at hok; cases hok
        | some x => exact ⟨x, rfl⟩
      have hrv : (lrootOf n p c).1 = r := by rw [hi, hr]; rfl
      have hpp := prB_true.1 hc.2.1
      have hp2 := hpp.1.1
      have hpos := pow_pos' (show 1 ≤ p by omega) c.toNat
      obtain ⟨s1, s2, s3⟩ := rootS_spec hpos hr
      rw [hrv]
      have no : Ev (fun k => laws_FnRootLift.j1 k n p c r true) true := by
        refine Ev.step (f := fun _ => some true) (fun k => ?_) (Ev.now _)
        rw [laws_FnRootLift.j1, if_pos rfl, decide_eq_true (show r ≥ 0 from s1)]
      by_cases h2 : p = 2
      · refine Ev.step (fun k => by rw [laws_FnRootLift.j0, if_neg (by simp), if_pos h2]) no
      · by_cases hd : p ∣ n
        · refine Ev.step (fun k => by rw [laws_FnRootLift.j0, if_neg (by simp), if_neg h2, if_neg (by omega), Int.tmod_eq_zero_of_dvd hd, beq_self_eq_true]) no
        · have hb : (Int.tmod n p == 0) = false := by
            rw [beq_eq_false_iff_ne]; exact fun h => hd (Int.dvd_of_tmod_eq_zero h)
          refine Ev.step (fun k => by rw [laws_FnRootLift.j0, if_neg (by simp), if_neg h2, if_neg (by omega), hb]) ?_
          refine Ev.step (fun k => by rw [laws_FnRootLift.j1, if_neg (by simp)]) ?_
          have hres : IsRes p n := ⟨r, by
            have hd1 : p ∣ p ^ c.toNat := by
              have : c.toNat = (c.toNat - 1) + 1 := by omega
              rw [this, Int.pow_succ]; exact Int.dvd_mul_left ..
            exact Int.dvd_trans hd1 s3⟩
          have := FnRootLift_l0 (K := c.toNat) hc.1 hc.2.1 h2 (by omega) (by omega) hd hres (c.toNat + 1) 0 (by omega)
          rw [Int.pow_zero, if_pos (by omega), Int.toNat_of_nonneg (by omega)] at this
          exact this

end Go.Proofs.Ytpcocojkhcokmaa.Pure
