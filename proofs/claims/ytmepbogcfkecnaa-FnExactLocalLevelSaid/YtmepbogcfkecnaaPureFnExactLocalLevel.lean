/- The program's LocalLevel and the reference's answer alike at every integer.
No condition beyond the given statement. The printed functions are tied to plain arithmetic one by one; the law follows at the end. -/
import Derived.Test.YtmepbogcfkecnaaOwnFnExactLocalLevelx5
import Derived.Test.YtmepbogcfkecnaaM15
set_option linter.unusedVariables false
set_option linter.unusedSimpArgs false
namespace Go.Proofs.Ytmepbogcfkecnaa.Pure
open Go.RowKit Go.Proofs.Ytmepbogcfkecnaa.PFnExactLocalLevel Go.Proofs.YtmepbogcfkecnaaW.PrintWords Go.Proofs.YtmepbogcfkecnaaW.PrintLast Go.Proofs.YtmepbogcfkecnaaW.PrintMore Go.Proofs.LG

theorem spec_l6In_eq (a b c : Int) : spec_l6In.f a b c = some (decide (b ≤ a ∧ a ≤ c)) := by
  unfold spec_l6In.f
  by_cases h : a ≥ b
  · rw [if_pos h]; congr 1; rw [decide_eq_decide]; omega
  · rw [if_neg h]; congr 1; symm; rw [decide_eq_false_iff_not]; omega
theorem spec_PrimeIs_l0 {n : Int} (h2 : 2 ≤ n) (hn : n ≤ 5000) : ∀ (d : Nat) (x : Int), 2 ≤ x → x ≤ n → n - x ≤ d → (∀ y, 2 ≤ y → y < x → ¬ y ∣ n) → Ev (fun k => spec_PrimeIs.l0 k n x) (prB n) := by
  intro d
  induction d with
  | zero =>
    intro x hx hxn hd h
    have := sq_gt hx (show n ≤ x by omega)
    have hb := mul_bd (show 0 ≤ x by omega) (show x ≤ 5000 by omega) (show 0 ≤ x by omega) (show x ≤ 5000 by omega)
    refine Ev.step (f := fun _ => some true) (fun k => ?_) ?_
    · rw [spec_PrimeIs.l0, w64 (by omega) (by omega), if_neg (by omega)]
    · rw [prB_true.2 ⟨pr_of_none h2 x (by omega) (by omega) h, hn⟩]; exact Ev.now _
  | succ d ih =>
    intro x hx hxn hd h
    have hb := mul_bd (show 0 ≤ x by omega) (show x ≤ 5000 by omega) (show 0 ≤ x by omega) (show x ≤ 5000 by omega)
    by_cases hle : x * x ≤ n
    · by_cases hdv : x ∣ n
      · have hlt : x < n := by
          have := sq_gt hx (Int.le_refl x); omega
        refine Ev.step (f := fun _ => some false) (fun k => ?_) ?_
        · rw [spec_PrimeIs.l0, w64 (by omega) (by omega), if_pos hle, if_neg (by omega), if_pos (Int.tmod_eq_zero_of_dvd hdv)]
        · rw [prB_false.2 fun hp => hp.1.2 x hx hlt hdv]; exact Ev.now _
      · have hlt : x < n := by
          have := sq_gt hx (Int.le_refl x); omega
        refine Ev.step (f := fun k => spec_PrimeIs.l0 k n (x + 1)) (fun k => ?_) (ih (x + 1) (by omega) (by omega) (by omega) ?_)
        · rw [spec_PrimeIs.l0, w64 (by omega) (by omega), if_pos hle, if_neg (by omega), if_neg (fun e => hdv (Int.dvd_of_tmod_eq_zero e)), w64 (by omega) (by omega)]
        · intro y h1 h2'
          by_cases e : y = x
          · subst e; exact hdv
          · exact h y h1 (by omega)
    · refine Ev.step (f := fun _ => some true) (fun k => ?_) ?_
      · rw [spec_PrimeIs.l0, w64 (by omega) (by omega), if_neg hle]
      · rw [prB_true.2 ⟨pr_of_none h2 x (by omega) (by omega) h, hn⟩]; exact Ev.now _
theorem spec_PrimeIs_ev (n : Int) : Ev (fun k => spec_PrimeIs.f k n) (prB n) := by
  unfold spec_PrimeIs.f
  simp only [spec_l6In_eq, Option.bind_some]
  by_cases h : 2 ≤ n ∧ n ≤ 5000
  · rw [decide_eq_true h]
    simp only [if_true]
    exact spec_PrimeIs_l0 h.1 h.2 (n - 2).toNat 2 (by omega) (by omega) (by omega) fun y h1 h2 => by omega
  · rw [decide_eq_false h]
    rw [prB_false.2 fun hp => h ⟨hp.1.1, hp.2⟩]
    exact Ev.now _
theorem impl_prime_l0 {n : Int} (h2 : 2 ≤ n) (hn : n ≤ 5000) : ∀ (d : Nat) (x : Int), 2 ≤ x → x ≤ n → n - x ≤ d → (∀ y, 2 ≤ y → y < x → ¬ y ∣ n) → Ev (fun k => impl_prime.l0 k n x) (prB n) := by
  intro d
  induction d with
  | zero =>
    intro x hx hxn hd h
    have := sq_gt hx (show n ≤ x by omega)
    have hb := mul_bd (show 0 ≤ x by omega) (show x ≤ 5000 by omega) (show 0 ≤ x by omega) (show x ≤ 5000 by omega)
    refine Ev.step (f := fun _ => some true) (fun k => ?_) ?_
    · rw [impl_prime.l0, w64 (by omega) (by omega), if_neg (by omega), decide_eq_true (by omega)]
    · rw [prB_true.2 ⟨pr_of_none h2 x (by omega) (by omega) h, hn⟩]; exact Ev.now _
  | succ d ih =>
    intro x hx hxn hd h
    have hb := mul_bd (show 0 ≤ x by omega) (show x ≤ 5000 by omega) (show 0 ≤ x by omega) (show x ≤ 5000 by omega)
    by_cases hle : x * x ≤ n
    · by_cases hdv : x ∣ n
      · have hlt : x < n := by
          have := sq_gt hx (Int.le_refl x); omega
        refine Ev.step (f := fun _ => some false) (fun k => ?_) ?_
        · rw [impl_prime.l0, w64 (by omega) (by omega), if_pos hle, if_neg (by omega), if_pos (Int.tmod_eq_zero_of_dvd hdv)]
        · rw [prB_false.2 fun hp => hp.1.2 x hx hlt hdv]; exact Ev.now _
      · have hlt : x < n := by
          have := sq_gt hx (Int.le_refl x); omega
        refine Ev.step (f := fun k => impl_prime.l0 k n (x + 1)) (fun k => ?_) (ih (x + 1) (by omega) (by omega) (by omega) ?_)
        · rw [impl_prime.l0, w64 (by omega) (by omega), if_pos hle, if_neg (by omega), if_neg (fun e => hdv (Int.dvd_of_tmod_eq_zero e)), w64 (by omega) (by omega)]
        · intro y h1 h2'
          by_cases e : y = x
          · subst e; exact hdv
          · exact h y h1 (by omega)
    · refine Ev.step (f := fun _ => some true) (fun k => ?_) ?_
      · rw [impl_prime.l0, w64 (by omega) (by omega), if_neg hle, decide_eq_true (by omega)]
      · rw [prB_true.2 ⟨pr_of_none h2 x (by omega) (by omega) h, hn⟩]; exact Ev.now _
theorem impl_PrimeIs_ev (n : Int) : Ev (fun k => impl_PrimeIs.f k n) (prB n) := by
  unfold impl_PrimeIs.f
  by_cases h5 : n ≤ 5000
  · simp only [if_pos h5]
    refine Ev.bind (a := prB n) ?_ (Ev.now _)
    unfold impl_prime.f
    by_cases h : 2 ≤ n
    · exact impl_prime_l0 h h5 (n - 2).toNat 2 (by omega) (by omega) (by omega) fun y h1 h2 => by omega
    · refine Ev.step (f := fun _ => some false) (fun k => ?_) ?_
      · rw [impl_prime.l0, w64 (by omega) (by omega), if_neg (by omega), decide_eq_false (by omega)]
      · rw [prB_false.2 fun hp => h hp.1.1]; exact Ev.now _
  · simp only [if_neg h5]
    rw [prB_false.2 fun hp => h5 hp.2]
    exact Ev.now _
theorem spec_PlaceValid_ev (n : Int) : Ev (fun k => spec_PlaceValid.f k n) (plB n) := by
  unfold spec_PlaceValid.f plB
  by_cases h : n = 0
  · simp only [if_pos h, h, decide_true, Bool.true_or]; exact Ev.now _
  · simp only [if_neg h, decide_eq_false h, Bool.false_or]
    exact Ev.bind (spec_PrimeIs_ev n) (Ev.now _)
theorem impl_PlaceValid_ev (n : Int) : Ev (fun k => impl_PlaceValid.f k n) (plB n) := by
  unfold impl_PlaceValid.f plB
  by_cases h : n = 0
  · simp only [if_pos h, h, decide_true, Bool.true_or]; exact Ev.now _
  · simp only [if_neg h, decide_eq_false h, Bool.false_or]
    exact Ev.bind (impl_PrimeIs_ev n) (Ev.now _)
theorem rd_pre (p : List Int) (a : Int) (l : List Int) : rd (p ++ a :: l) (p.length : Int) = a := by
  unfold rd
  rw [Int.toNat_natCast, List.getD_eq_getElem?_getD, List.getElem?_append_right (Nat.le_refl _)]
  simp
theorem set_pre (p : List Int) (a : Int) (l : List Int) (c : Int) : (p ++ a :: l).set ((p.length : Int)).toNat c = p ++ c :: l := by
  rw [Int.toNat_natCast, List.set_append_right _ _ (Nat.le_refl _)]
  simp
theorem rdB {m : Int} {L : List Bool} {P : Int → Prop} (h : IsL m L P) {i : Int} (h0 : 0 ≤ i) (h1 : i < m) : rdOf false L i = true ↔ P i := h.2 i h0 h1
theorem spec_LocalLevel_l3 {m lev a : Int} {A B : List Bool} {PA PB : Int → Prop} {r : Int} (hm : 3 ≤ m) (hm' : m ≤ 5000) (hA : IsL m A PA) (hB : IsL m B PB) (ha : 0 ≤ a) (ha' : a < m) :
    ∀ (d : Nat) (b : Int) (N : List Bool) (Q : Int → Prop), 0 ≤ b → b + d = m → IsL m N Q →
    (∀ N', IsL m N' (fun i => Q i ∨ (PA a ∧ ∃ b', b ≤ b' ∧ b' < m ∧ PB b' ∧ (a + b') % m = i)) → Ev (fun k => spec_LocalLevel.l2 k m B A lev N' (a + 1)) r) →
    Ev (fun k => spec_LocalLevel.l3 k m B A lev N a b) r := by
  have lA := hA.1
  have lB := hB.1
  intro d
  induction d with
  | zero =>
    intro b N Q hb hd hN h
    refine Ev.step (fun k => ?_) (h N (hN.congr fun i _ _ => ⟨Or.inl, fun h => h.elim id (fun ⟨_, b', h1, h2, _⟩ => by omega)⟩))
    rw [spec_LocalLevel.l3, if_neg (by omega), w64 (x := a + 1) (by omega) (by omega)]
  | succ d ih =>
    intro b N Q hb hd hN h
    have lN := hN.1
    have w1 : wrap64 (b + 1) = b + 1 := w64 (by omega) (by omega)
    by_cases hpa : PA a
    · by_cases hpb : PB b
      · have m0 := emod_bd (a + b) (show 0 < m by omega)
        have hih := ih (b + 1) (N.set ((a + b) % m).toNat true) _ (by omega) (by omega) (hN.put m0.1 m0.2) (fun N' hN' => h N' (hN'.congr fun i _ _ => by
          constructor
          · rintro ((h | h) | ⟨h1, b', h2, h3, h4, h5⟩)
            · exact Or.inl h
            · exact Or.inr ⟨hpa, b, by omega, by omega, hpb, h.symm⟩
            · exact Or.inr ⟨h1, b', by omega, h3, h4, h5⟩
          · rintro (h | ⟨h1, b', h2, h3, h4, h5⟩)
            · exact Or.inl (Or.inl h)
            · by_cases e : b' = b
              · subst e; exact Or.inl (Or.inr h5.symm)
              · exact Or.inr ⟨h1, b', by omega, h3, h4, h5⟩))
        refine Ev.step (fun k => ?_) hih
        rw [spec_LocalLevel.l3, if_pos (by omega), if_pos ha, if_pos (by omega), if_pos ((rdB hA ha ha').2 hpa), if_pos hb, if_pos (by omega), if_pos ((rdB hB hb (by omega)).2 hpb), if_neg (by omega), w64 (x := a + b) (by omega) (by omega), tm (show 0 ≤ a + b by omega), if_pos m0.1, if_pos (by omega), w1]
      · have hih := ih (b + 1) N Q (by omega) (by omega) hN (fun N' hN' => h N' (hN'.congr fun i _ _ => by
          constructor
          · rintro (h | ⟨h1, b', h2, h3, h4, h5⟩)
            · exact Or.inl h
            · exact Or.inr ⟨h1, b', by omega, h3, h4, h5⟩
          · rintro (h | ⟨h1, b', h2, h3, h4, h5⟩)
            · exact Or.inl h
            · by_cases e : b' = b
              · subst e; exact absurd h4 hpb
              · exact Or.inr ⟨h1, b', by omega, h3, h4, h5⟩))
        refine Ev.step (fun k => ?_) hih
        rw [spec_LocalLevel.l3, if_pos (by omega), if_pos ha, if_pos (by omega), if_pos ((rdB hA ha ha').2 hpa), if_pos hb, if_pos (by omega), if_neg (fun h => hpb ((rdB hB hb (by omega)).1 h)), w1]
    · have hih := ih (b + 1) N Q (by omega) (by omega) hN (fun N' hN' => h N' (hN'.congr fun i _ _ => by
        constructor
        · rintro (h | ⟨h1, _⟩)
          · exact Or.inl h
          · exact absurd h1 hpa
        · rintro (h | ⟨h1, _⟩)
          · exact Or.inl h
          · exact absurd h1 hpa))
      refine Ev.step (fun k => ?_) hih
      rw [spec_LocalLevel.l3, if_pos (by omega), if_pos ha, if_pos (by omega), if_neg (fun h => hpa ((rdB hA ha ha').1 h)), w1]
theorem spec_LocalLevel_l2 {m lev : Int} {A B : List Bool} {PA PB : Int → Prop} {r : Int} (hm : 3 ≤ m) (hm' : m ≤ 5000) (hl : 0 ≤ lev) (hl' : lev ≤ 10) (hA : IsL m A PA) (hB : IsL m B PB) :
    ∀ (d : Nat) (a : Int) (N : List Bool) (Q : Int → Prop), 0 ≤ a → a + d = m → IsL m N Q →
    (∀ N', IsL m N' (fun i => Q i ∨ ∃ a' b', a ≤ a' ∧ a' < m ∧ 0 ≤ b' ∧ b' < m ∧ PA a' ∧ PB b' ∧ (a' + b') % m = i) → Ev (fun k => spec_LocalLevel.l1 k m B N' (lev + 1)) r) →
    Ev (fun k => spec_LocalLevel.l2 k m B A lev N a) r := by
  intro d
  induction d with
  | zero =>
    intro a N Q ha hd hN h
    refine Ev.step (fun k => ?_) (h N (hN.congr fun i _ _ => ⟨Or.inl, fun h => h.elim id (fun ⟨a', b', h1, h2, _⟩ => by omega)⟩))
    rw [spec_LocalLevel.l2, if_neg (by omega), w64 (x := lev + 1) (by omega) (by omega)]
  | succ d ih =>
    intro a N Q ha hd hN h
    refine Ev.step (f := fun k => spec_LocalLevel.l3 k m B A lev N a 0) (fun k => by rw [spec_LocalLevel.l2, if_pos (by omega)]) ?_
    refine spec_LocalLevel_l3 hm hm' hA hB ha (by omega) m.toNat 0 N Q (by omega) (by omega) hN fun N1 hN1 => ?_
    refine ih (a + 1) N1 _ (by omega) (by omega) hN1 fun N2 hN2 => h N2 (hN2.congr fun i _ _ => ?_)
    constructor
    · rintro ((h | ⟨h1, b', h2, h3, h4, h5⟩) | ⟨a', b', h1, h2, h3⟩)
      · exact Or.inl h
      · exact Or.inr ⟨a, b', by omega, by omega, h2, h3, h1, h4, h5⟩
      · exact Or.inr ⟨a', b', by omega, h2, h3⟩
    · rintro (h | ⟨a', b', h1, h2, h3, h4, h5, h6, h7⟩)
      · exact Or.inl (Or.inl h)
      · by_cases e : a' = a
        · subst e; exact Or.inl (Or.inr ⟨h5, b', h3, h4, h6, h7⟩)
        · exact Or.inr ⟨a', b', by omega, h2, h3, h4, h5, h6, h7⟩
theorem spec_LocalLevel_l1 {m : Int} {B : List Bool} {K : Nat} (hm : 3 ≤ m) (hm' : m ≤ 5000) (hB : IsL m B (SQ m)) (hK : LevelIs m K) :
    ∀ (d lev : Nat) (A : List Bool), 1 ≤ lev → lev + d = K → IsL m A (SumN m lev) → Ev (fun k => spec_LocalLevel.l1 k m B A lev) (K : Int) := by
  obtain ⟨k1, k4, ks, kn⟩ := hK
  have w1 : wrap64 (m - 1) = m - 1 := w64 (by omega) (by omega)
  intro d
  induction d with
  | zero =>
    intro lev A h1 hd hA
    have lA := hA.1
    have : lev = K := by omega
    subst this
    refine Ev.step (f := fun _ => some (lev : Int)) (fun k => ?_) (Ev.now _)
    rw [spec_LocalLevel.l1, w1, if_pos (by omega), if_pos (by omega), if_pos ((rdB hA (by omega) (by omega)).2 ks)]
  | succ d ih =>
    intro lev A h1 hd hA
    have lA := hA.1
    have hno := kn lev h1 (by omega)
    refine Ev.step (f := fun k => spec_LocalLevel.l2 k m B A lev (List.replicate m.toNat false) 0) (fun k => ?_) ?_
    · rw [spec_LocalLevel.l1, w1, if_pos (by omega), if_pos (by omega), if_neg (fun h => hno ((rdB hA (by omega) (by omega)).1 h)), if_pos (by omega), if_pos (by omega)]
    · refine spec_LocalLevel_l2 hm hm' (by omega) (by omega) hA hB m.toNat 0 _ _ (by omega) (by omega) (IsL.zero (by omega)) fun N hN => ?_
      refine ih (lev + 1) N (by omega) (by omega) (hN.congr fun i _ _ => ?_)
      constructor
      · rintro (h | ⟨a, b, h1, h2, h3, h4, h5, h6, h7⟩)
        · cases h
        · exact ⟨a, b, h1, h2, h3, h4, h5, h6, h7⟩
      · rintro ⟨a, b, h1, h2, h3, h4, h5, h6, h7⟩
        exact Or.inr ⟨a, b, h1, h2, h3, h4, h5, h6, h7⟩
theorem spec_LocalLevel_l0 {m r : Int} (hm : 3 ≤ m) (hm' : m ≤ 5000) (h : ∀ B, IsL m B (SQ m) → Ev (fun k => spec_LocalLevel.l1 k m B B 1) r) :
    ∀ (d : Nat) (x : Int) (L : List Bool), 0 ≤ x → x + d = m → IsL m L (fun i => ∃ y, 0 ≤ y ∧ y < x ∧ y * y % m = i) → Ev (fun k => spec_LocalLevel.l0 k m L x) r := by
  intro d
  induction d with
  | zero =>
    intro x L hx hd hL
    have : x = m := by omega
    subst this
    refine Ev.step (fun k => by rw [spec_LocalLevel.l0, if_neg (by omega)]) (h L hL)
  | succ d ih =>
    intro x L hx hd hL
    have lL := hL.1
    have b1 := mul_bd hx (show x ≤ 5000 by omega) hx (show x ≤ 5000 by omega)
    have m0 := emod_bd (x * x) (show 0 < m by omega)
    have hih := ih (x + 1) (L.set (x * x % m).toNat true) (by omega) (by omega) ((hL.put m0.1 m0.2).congr fun i _ _ => by
      constructor
      · rintro (⟨y, h1, h2, h3⟩ | h)
        · exact ⟨y, h1, by omega, h3⟩
        · exact ⟨x, hx, by omega, h.symm⟩
      · rintro ⟨y, h1, h2, h3⟩
        by_cases e : y = x
        · subst e; exact Or.inr h3.symm
        · exact Or.inl ⟨y, h1, by omega, h3⟩)
    refine Ev.step (fun k => ?_) hih
    rw [spec_LocalLevel.l0, if_pos (by omega), if_neg (by omega), w64 (x := x * x) (by omega) (by omega), tm b1.1, if_pos m0.1, if_pos (by omega), w64 (x := x + 1) (by omega) (by omega)]
theorem spec_LocalLevel_j1 {m : Int} {K : Nat} (hm : 3 ≤ m) (hm' : m ≤ 5000) (hK : LevelIs m K) : Ev (fun k => spec_LocalLevel.j1 k m) (K : Int) := by
  refine Ev.step (fun k => by rw [spec_LocalLevel.j1, if_pos (by omega), if_pos (by omega)]) ?_
  refine spec_LocalLevel_l0 hm hm' (fun B hB => ?_) m.toNat 0 _ (by omega) (by omega) ((IsL.zero (by omega)).congr fun i _ _ => ⟨(fun h => by cases h), (fun ⟨y, h1, h2, _⟩ => by omega)⟩)
  have hk1 := hK.1
  exact spec_LocalLevel_l1 hm hm' hB hK (K - 1) 1 B (by omega) (by omega) (hB.congr fun i h0 h1 => (SumN_one h0 h1).symm)
theorem spec_LocalLevel_no (p : Int) : Ev (fun k => spec_LocalLevel.j0 k p true) (-1) :=
  Ev.step (f := fun _ => some (-1)) (fun k => by rw [spec_LocalLevel.j0, if_pos rfl]) (Ev.now _)
theorem spec_LocalLevel_ev {p : Int} {K : Nat} (hp : plB p = true) (h0 : p ≠ 0) (hK : LevelIs (if p = 2 then 16 else p) K) : Ev (fun k => spec_LocalLevel.f k p) (K : Int) := by
  have hpl := plB_pl hp
  have h2 : 2 ≤ p := by rcases hpl.1 with h | h
                        · exact absurd h h0
                        · exact h.1
  unfold spec_LocalLevel.f
  refine Ev.bind (spec_PlaceValid_ev p) ?_
  simp only [if_pos hp]
  rw [show (p == 0) = false by rw [beq_eq_false_iff_ne]; exact h0]
  by_cases e : p = 2
  · rw [if_pos e] at hK
    refine Ev.step (fun k => by rw [spec_LocalLevel.j0, if_neg (by simp), if_pos e]) (spec_LocalLevel_j1 (by omega) (by omega) hK)
  · rw [if_neg e] at hK
    refine Ev.step (fun k => by rw [spec_LocalLevel.j0, if_neg (by simp), if_neg e]) (spec_LocalLevel_j1 (by omega) (by omega) hK)
theorem spec_LocalLevel_not {p : Int} (h : ¬ (plB p = true ∧ p ≠ 0)) : Ev (fun k => spec_LocalLevel.f k p) (-1) := by
  unfold spec_LocalLevel.f
  refine Ev.bind (spec_PlaceValid_ev p) ?_
  by_cases hp : plB p = true
  · have h0 : p = 0 := Classical.byContradiction fun h0 => h ⟨hp, h0⟩
    simp only [if_pos hp]
    rw [show (p == 0) = true by rw [beq_iff_eq]; exact h0]; exact spec_LocalLevel_no p
  · simp only [if_neg hp]; exact spec_LocalLevel_no p
theorem rdC {m : Int} {L : List Bool} {P : Int → Prop} (h : IsL m L P) {i : Int} (h0 : 0 ≤ i) (h1 : i < m) : rdOf false L i = true ↔ P i := h.2 i h0 h1
theorem impl_LocalLevel_l3 {m lev a : Int} {A B : List Bool} {PA PB : Int → Prop} {r : Int} (hm : 3 ≤ m) (hm' : m ≤ 5000) (hA : IsL m A PA) (hB : IsL m B PB) (ha : 0 ≤ a) (ha' : a < m) :
    ∀ (d : Nat) (b : Int) (N : List Bool) (Q : Int → Prop), 0 ≤ b → b + d = m → IsL m N Q →
    (∀ N', IsL m N' (fun i => Q i ∨ (PA a ∧ ∃ b', b ≤ b' ∧ b' < m ∧ PB b' ∧ (a + b') % m = i)) → Ev (fun k => impl_LocalLevel.l2 k m B A lev N' m (a + 1)) r) →
    Ev (fun k => impl_LocalLevel.l3 k m B A lev N a m a m b) r := by
  have lA := hA.1
  have lB := hB.1
  intro d
  induction d with
  | zero =>
    intro b N Q hb hd hN h
    refine Ev.step (fun k => ?_) (h N (hN.congr fun i _ _ => ⟨Or.inl, fun h => h.elim id (fun ⟨_, b', h1, h2, _⟩ => by omega)⟩))
    rw [impl_LocalLevel.l3, if_neg (by omega), w64 (x := a + 1) (by omega) (by omega)]
  | succ d ih =>
    intro b N Q hb hd hN h
    have lN := hN.1
    have w1 : wrap64 (b + 1) = b + 1 := w64 (by omega) (by omega)
    by_cases hpa : PA a
    · by_cases hpb : PB b
      · have m0 := emod_bd (a + b) (show 0 < m by omega)
        have hih := ih (b + 1) (N.set ((a + b) % m).toNat true) _ (by omega) (by omega) (hN.put m0.1 m0.2) (fun N' hN' => h N' (hN'.congr fun i _ _ => by
          constructor
          · rintro ((h | h) | ⟨h1, b', h2, h3, h4, h5⟩)
            · exact Or.inl h
            · exact Or.inr ⟨hpa, b, by omega, by omega, hpb, h.symm⟩
            · exact Or.inr ⟨h1, b', by omega, h3, h4, h5⟩
          · rintro (h | ⟨h1, b', h2, h3, h4, h5⟩)
            · exact Or.inl (Or.inl h)
            · by_cases e : b' = b
              · subst e; exact Or.inl (Or.inr h5.symm)
              · exact Or.inr ⟨h1, b', by omega, h3, h4, h5⟩))
        refine Ev.step (fun k => ?_) hih
        rw [impl_LocalLevel.l3, if_pos (by omega), if_pos ha, if_pos (by omega), if_pos ((rdC hA ha ha').2 hpa), if_pos hb, if_pos (by omega), if_pos ((rdC hB hb (by omega)).2 hpb), if_neg (by omega), w64 (x := a + b) (by omega) (by omega), tm (show 0 ≤ a + b by omega), if_pos m0.1, if_pos (by omega), w1]
      · have hih := ih (b + 1) N Q (by omega) (by omega) hN (fun N' hN' => h N' (hN'.congr fun i _ _ => by
          constructor
          · rintro (h | ⟨h1, b', h2, h3, h4, h5⟩)
            · exact Or.inl h
            · exact Or.inr ⟨h1, b', by omega, h3, h4, h5⟩
          · rintro (h | ⟨h1, b', h2, h3, h4, h5⟩)
            · exact Or.inl h
            · by_cases e : b' = b
              · subst e; exact absurd h4 hpb
              · exact Or.inr ⟨h1, b', by omega, h3, h4, h5⟩))
        refine Ev.step (fun k => ?_) hih
        rw [impl_LocalLevel.l3, if_pos (by omega), if_pos ha, if_pos (by omega), if_pos ((rdC hA ha ha').2 hpa), if_pos hb, if_pos (by omega), if_neg (fun h => hpb ((rdC hB hb (by omega)).1 h)), w1]
    · have hih := ih (b + 1) N Q (by omega) (by omega) hN (fun N' hN' => h N' (hN'.congr fun i _ _ => by
        constructor
        · rintro (h | ⟨h1, _⟩)
          · exact Or.inl h
          · exact absurd h1 hpa
        · rintro (h | ⟨h1, _⟩)
          · exact Or.inl h
          · exact absurd h1 hpa))
      refine Ev.step (fun k => ?_) hih
      rw [impl_LocalLevel.l3, if_pos (by omega), if_pos ha, if_pos (by omega), if_neg (fun h => hpa ((rdC hA ha ha').1 h)), w1]
theorem impl_LocalLevel_l2 {m lev : Int} {A B : List Bool} {PA PB : Int → Prop} {r : Int} (hm : 3 ≤ m) (hm' : m ≤ 5000) (hA : IsL m A PA) (hB : IsL m B PB) :
    ∀ (d : Nat) (a : Int) (N : List Bool) (Q : Int → Prop), 0 ≤ a → a + d = m → IsL m N Q →
    (∀ N', IsL m N' (fun i => Q i ∨ ∃ a' b', a ≤ a' ∧ a' < m ∧ 0 ≤ b' ∧ b' < m ∧ PA a' ∧ PB b' ∧ (a' + b') % m = i) → Ev (fun k => impl_LocalLevel.l2 k m B A lev N' m m) r) →
    Ev (fun k => impl_LocalLevel.l2 k m B A lev N m a) r := by
  intro d
  induction d with
  | zero =>
    intro a N Q ha hd hN h
    have : a = m := by omega
    rw [this]
    exact h N (hN.congr fun i _ _ => ⟨Or.inl, fun h => h.elim id (fun ⟨a', b', h1, h2, _⟩ => by omega)⟩)
  | succ d ih =>
    intro a N Q ha hd hN h
    refine Ev.step (f := fun k => impl_LocalLevel.l3 k m B A lev N a m a m 0) (fun k => by rw [impl_LocalLevel.l2, if_pos (by omega)]) ?_
    refine impl_LocalLevel_l3 hm hm' hA hB ha (by omega) m.toNat 0 N Q (by omega) (by omega) hN fun N1 hN1 => ?_
    refine ih (a + 1) N1 _ (by omega) (by omega) hN1 fun N2 hN2 => h N2 (hN2.congr fun i _ _ => ?_)
    constructor
    · rintro ((h | ⟨h1, b', h2, h3, h4, h5⟩) | ⟨a', b', h1, h2, h3⟩)
      · exact Or.inl h
      · exact Or.inr ⟨a, b', by omega, by omega, h2, h3, h1, h4, h5⟩
      · exact Or.inr ⟨a', b', by omega, h2, h3⟩
    · rintro (h | ⟨a', b', h1, h2, h3, h4, h5, h6, h7⟩)
      · exact Or.inl (Or.inl h)
      · by_cases e : a' = a
        · subst e; exact Or.inl (Or.inr ⟨h5, b', h3, h4, h6, h7⟩)
        · exact Or.inr ⟨a', b', by omega, h2, h3, h4, h5, h6, h7⟩
theorem impl_LocalLevel_l1 {m : Int} {B : List Bool} {K : Nat} (hm : 3 ≤ m) (hm' : m ≤ 5000) (hB : IsL m B (SQ m)) (hK : LevelIs m K) :
    ∀ (d lev : Nat) (A : List Bool), lev + 1 + d = K → IsL m A (SumN m lev) → Ev (fun k => impl_LocalLevel.l1 k m B A ((lev : Int) + 1)) (K : Int) := by
  obtain ⟨k1, k4, ks, kn⟩ := hK
  have w1 : wrap64 (m - 1) = m - 1 := w64 (by omega) (by omega)
  intro d
  induction d with
  | zero =>
    intro lev A hd hA
    refine Ev.step (f := fun k => impl_LocalLevel.l2 k m B A ((lev : Int) + 1) (List.replicate m.toNat false) m 0) (fun k => by rw [impl_LocalLevel.l1, if_pos (by omega), if_pos (by omega)]) ?_
    refine impl_LocalLevel_l2 hm hm' hA hB m.toNat 0 _ _ (by omega) (by omega) (IsL.zero (by omega)) fun N hN => ?_
    have hN2 : IsL m N (SumN m (lev + 1)) := hN.congr fun i _ _ => by
      constructor
      · rintro (h | ⟨a, b, h1, h2, h3, h4, h5, h6, h7⟩)
        · cases h
        · exact ⟨a, b, h1, h2, h3, h4, h5, h6, h7⟩
      · rintro ⟨a, b, h1, h2, h3, h4, h5, h6, h7⟩
        exact Or.inr ⟨a, b, h1, h2, h3, h4, h5, h6, h7⟩
    have lN := hN2.1
    have hk : lev + 1 = K := by omega
    refine Ev.step (f := fun _ => some ((lev : Int) + 1)) (fun k => ?_) ?_
    · rw [impl_LocalLevel.l2, if_neg (by omega), w1, if_pos (by omega), if_pos (by omega), if_pos ((rdC hN2 (by omega) (by omega)).2 (by rw [hk]; exact ks))]
    · rw [show (K : Int) = (lev : Int) + 1 by omega]; exact Ev.now _
  | succ d ih =>
    intro lev A hd hA
    refine Ev.step (f := fun k => impl_LocalLevel.l2 k m B A ((lev : Int) + 1) (List.replicate m.toNat false) m 0) (fun k => by rw [impl_LocalLevel.l1, if_pos (by omega), if_pos (by omega)]) ?_
    refine impl_LocalLevel_l2 hm hm' hA hB m.toNat 0 _ _ (by omega) (by omega) (IsL.zero (by omega)) fun N hN => ?_
    have hN2 : IsL m N (SumN m (lev + 1)) := hN.congr fun i _ _ => by
      constructor
      · rintro (h | ⟨a, b, h1, h2, h3, h4, h5, h6, h7⟩)
        · cases h
        · exact ⟨a, b, h1, h2, h3, h4, h5, h6, h7⟩
      · rintro ⟨a, b, h1, h2, h3, h4, h5, h6, h7⟩
        exact Or.inr ⟨a, b, h1, h2, h3, h4, h5, h6, h7⟩
    have lN := hN2.1
    have hno := kn (lev + 1) (by omega) (by omega)
    refine Ev.step (fun k => ?_) (ih (lev + 1) N (by omega) hN2)
    rw [impl_LocalLevel.l2, if_neg (by omega), w1, if_pos (by omega), if_pos (by omega), if_neg (fun h => hno ((rdC hN2 (by omega) (by omega)).1 h)), w64 (x := (lev : Int) + 1 + 1) (by omega) (by omega)]
    rfl
theorem impl_LocalLevel_l0 {m r : Int} {R : List Bool} (hm : 3 ≤ m) (hm' : m ≤ 5000) (hR : (R.length : Int) = m) (h : ∀ B, IsL m B (SQ m) → Ev (fun k => impl_LocalLevel.l1 k m B (R.set (0 : Int).toNat true) 1) r) :
    ∀ (d : Nat) (x : Int) (L : List Bool), 0 ≤ x → x + d = m → IsL m L (fun i => ∃ y, 0 ≤ y ∧ y < x ∧ y * y % m = i) → Ev (fun k => impl_LocalLevel.l0 k m L R m x) r := by
  intro d
  induction d with
  | zero =>
    intro x L hx hd hL
    have : x = m := by omega
    subst this
    refine Ev.step (fun k => by rw [impl_LocalLevel.l0, if_neg (by omega), if_pos (by omega)]) (h L hL)
  | succ d ih =>
    intro x L hx hd hL
    have lL := hL.1
    have b1 := mul_bd hx (show x ≤ 5000 by omega) hx (show x ≤ 5000 by omega)
    have m0 := emod_bd (x * x) (show 0 < m by omega)
    have hih := ih (x + 1) (L.set (x * x % m).toNat true) (by omega) (by omega) ((hL.put m0.1 m0.2).congr fun i _ _ => by
      constructor
      · rintro (⟨y, h1, h2, h3⟩ | h)
        · exact ⟨y, h1, by omega, h3⟩
        · exact ⟨x, hx, by omega, h.symm⟩
      · rintro ⟨y, h1, h2, h3⟩
        by_cases e : y = x
        · subst e; exact Or.inr h3.symm
        · exact Or.inl ⟨y, h1, by omega, h3⟩)
    refine Ev.step (fun k => ?_) hih
    rw [impl_LocalLevel.l0, if_pos (by omega), if_neg (by omega), w64 (x := x * x) (by omega) (by omega), tm b1.1, if_pos m0.1, if_pos (by omega), w64 (x := x + 1) (by omega) (by omega)]
theorem impl_LocalLevel_j1 {m : Int} {K : Nat} (hm : 3 ≤ m) (hm' : m ≤ 5000) (hK : LevelIs m K) : Ev (fun k => impl_LocalLevel.j1 k m) (K : Int) := by
  have hz := IsL.zero (m := m) (by omega)
  refine Ev.step (fun k => by rw [impl_LocalLevel.j1, if_pos (by omega), if_pos (by omega)]) ?_
  refine impl_LocalLevel_l0 hm hm' hz.1 (fun B hB => ?_) m.toNat 0 _ (by omega) (by omega) (hz.congr fun i _ _ => ⟨(fun h => by cases h), (fun ⟨y, h1, h2, _⟩ => by omega)⟩)
  have hk1 := hK.1
  exact impl_LocalLevel_l1 hm hm' hB hK (K - 1) 0 _ (by omega) ((hz.put (j := 0) (by omega) (by omega)).congr fun i h0 h1 => by
    constructor
    · rintro (h | h)
      · cases h
      · exact h
    · intro h; exact Or.inr h)
theorem impl_LocalLevel_no (p : Int) : Ev (fun k => impl_LocalLevel.j0 k p true) (-1) :=
  Ev.step (f := fun _ => some (-1)) (fun k => by rw [impl_LocalLevel.j0, if_pos rfl]) (Ev.now _)
theorem impl_LocalLevel_ev {p : Int} {K : Nat} (hp : plB p = true) (h0 : p ≠ 0) (hK : LevelIs (if p = 2 then 16 else p) K) : Ev (fun k => impl_LocalLevel.f k p) (K : Int) := by
  have hpl := plB_pl hp
  have h2 : 2 ≤ p := by rcases hpl.1 with h | h
                        · exact absurd h h0
                        · exact h.1
  unfold impl_LocalLevel.f
  simp only [if_neg h0]
  refine Ev.bind (impl_PlaceValid_ev p) ?_
  rw [hp]
  by_cases e : p = 2
  · rw [if_pos e] at hK
    refine Ev.step (fun k => by rw [impl_LocalLevel.j0, if_neg (by simp), if_pos e]) (impl_LocalLevel_j1 (by omega) (by omega) hK)
  · rw [if_neg e] at hK
    refine Ev.step (fun k => by rw [impl_LocalLevel.j0, if_neg (by simp), if_neg e]) (impl_LocalLevel_j1 (by omega) (by omega) hK)
theorem impl_LocalLevel_not {p : Int} (h : ¬ (plB p = true ∧ p ≠ 0)) : Ev (fun k => impl_LocalLevel.f k p) (-1) := by
  unfold impl_LocalLevel.f
  by_cases h0 : p = 0
  · simp only [if_pos h0]; exact impl_LocalLevel_no p
  · simp only [if_neg h0]
    refine Ev.bind (impl_PlaceValid_ev p) ?_
    have hp : plB p = false := by rw [← Bool.not_eq_true]; exact fun hp => h ⟨hp, h0⟩
    rw [hp]; exact impl_LocalLevel_no p
theorem FnExactLocalLevel : laws_FnExactLocalLevel.Pure := by
  intro p _
  refine Ev.rounds ?_
  unfold laws_FnExactLocalLevel.f
  by_cases h : plB p = true ∧ p ≠ 0
  · have hpl := plB_pl h.1
    have hK : ∃ K, LevelIs (if p = 2 then 16 else p) K := by
      by_cases e : p = 2
      · rw [if_pos e]; exact level_16
      · rw [if_neg e]
        rcases hpl.1 with h' | h'
        · exact absurd h' h.2
        · exact level_odd h' e
    obtain ⟨K, hK⟩ := hK
    refine Ev.bind (spec_LocalLevel_ev h.1 h.2 hK) (Ev.bind (impl_LocalLevel_ev h.1 h.2 hK) ?_)
    rw [if_pos rfl]; exact Ev.now _
  · refine Ev.bind (spec_LocalLevel_not h) (Ev.bind (impl_LocalLevel_not h) ?_)
    rw [if_pos rfl]; exact Ev.now _

end Go.Proofs.Ytmepbogcfkecnaa.Pure
