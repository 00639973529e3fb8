/- Plain arithmetic: non-residues, local squares, classes at a place and their names. -/
import Derived.Test.YtmepbogcfkecnaaM4
set_option linter.unusedVariables false
set_option linter.unusedSimpArgs false
namespace Go.Proofs.LG

/-! ### The least number that is no residue -/
noncomputable def nrOf (p : Int) : Int := (srch (fun u => decide (leg u p = -1)) p.toNat 2).getD 0

theorem nr_spec {p : Int} (hp : Pr p) (h2 : p ≠ 2) : 2 ≤ nrOf p ∧ nrOf p < p ∧ leg (nrOf p) p = -1 ∧ ∀ y, 2 ≤ y → y < nrOf p → leg y p = 1 := by
  have h0 := hp.1
  obtain ⟨h, hh, h1⟩ := odd_prime hp h2
  obtain ⟨u, hu1, hu2, hu3⟩ := nonres_exists hp h hh
  have hlu : leg u p = -1 := leg_neg (Pr.not_dvd_small (by omega) hu2) hu3
  obtain ⟨y, hy, hyu⟩ := srch_of (P := fun u => decide (leg u p = -1)) (d := p.toNat) (i := 2) hu1 (by omega) (decide_eq_true hlu)
  obtain ⟨a, b, c, e⟩ := srch_some hy
  have en : nrOf p = y := by unfold nrOf; rw [hy]; rfl
  rw [en]
  refine ⟨a, by omega, of_decide_eq_true c, fun z hz1 hz2 => ?_⟩
  have := of_decide_eq_false (e z hz1 hz2)
  have hz : ¬ p ∣ z := Pr.not_dvd_small (by omega) (by omega)
  rcases leg_cases z p with h | h | h
  · exact absurd (leg_eq_zero.1 h) hz
  · exact h
  · exact absurd h this

/-! ### Local squares -/
noncomputable def lsq (n p : Int) : Bool :=
  if p = 0 then decide (n > 0) else if vl n p % 2 = 0 then (if p = 2 then decide (un n p % 8 = 1) else decide (leg (un n p) p = 1)) else false

noncomputable def namesL (p : Int) : List Int :=
  if p = 0 then [1, -1] else if p = 2 then [1, 3, 5, 7, 2, 6, 10, 14] else [1, nrOf p, p, p * nrOf p]

/-- The class of a number at a place, as two small integers. -/
noncomputable def cls (p n : Int) : Int × Int :=
  if p = 0 then (0, if n > 0 then 1 else -1) else if p = 2 then ((vl n 2 % 2 : Nat), un n 2 % 8) else ((vl n p % 2 : Nat), leg (un n p) p)
def mulc (p : Int) (a b : Int × Int) : Int × Int := ((a.1 + b.1) % 2, if p = 2 then a.2 * b.2 % 8 else a.2 * b.2)
/-- The name of a class. -/
noncomputable def nameC (p : Int) (c : Int × Int) : Int :=
  if p = 0 then c.2 else if p = 2 then (if c.1 = 0 then c.2 else 2 * c.2) else
    (if c.1 = 0 then (if c.2 = 1 then 1 else nrOf p) else (if c.2 = 1 then p else p * nrOf p))
theorem cls_0 (n : Int) : cls 0 n = (0, if n > 0 then 1 else -1) := by unfold cls; rw [if_pos rfl]
theorem cls_2 (n : Int) : cls 2 n = (((vl n 2 % 2 : Nat) : Int), un n 2 % 8) := by unfold cls; rw [if_neg (show ¬ (2 : Int) = 0 by omega), if_pos rfl]
theorem cls_p {p : Int} (h0 : p ≠ 0) (h2 : p ≠ 2) (n : Int) : cls p n = (((vl n p % 2 : Nat) : Int), leg (un n p) p) := by unfold cls; rw [if_neg h0, if_neg h2]
theorem lsq_0 (n : Int) : lsq n 0 = decide (n > 0) := by unfold lsq; rw [if_pos rfl]
theorem lsq_2 (n : Int) : lsq n 2 = if vl n 2 % 2 = 0 then decide (un n 2 % 8 = 1) else false := by unfold lsq; rw [if_neg (show ¬ (2 : Int) = 0 by omega), if_pos rfl]
theorem lsq_p {p : Int} (h0 : p ≠ 0) (h2 : p ≠ 2) (n : Int) : lsq n p = if vl n p % 2 = 0 then decide (leg (un n p) p = 1) else false := by unfold lsq; rw [if_neg h0, if_neg h2]
theorem mulc_2 (a b : Int × Int) : mulc 2 a b = ((a.1 + b.1) % 2, a.2 * b.2 % 8) := by unfold mulc; rw [if_pos rfl]
theorem mulc_p {p : Int} (h2 : p ≠ 2) (a b : Int × Int) : mulc p a b = ((a.1 + b.1) % 2, a.2 * b.2) := by unfold mulc; rw [if_neg h2]
theorem nameC_0 (c : Int × Int) : nameC 0 c = c.2 := by unfold nameC; rw [if_pos rfl]
theorem nameC_2 (a b : Int) : nameC 2 (a, b) = if a = 0 then b else 2 * b := by unfold nameC; rw [if_neg (show ¬ (2 : Int) = 0 by omega), if_pos rfl]
/-- The pairs that are classes. -/
def ClsOk (p : Int) (c : Int × Int) : Prop :=
  if p = 0 then c.1 = 0 ∧ (c.2 = 1 ∨ c.2 = -1) else if p = 2 then (c.1 = 0 ∨ c.1 = 1) ∧ (c.2 = 1 ∨ c.2 = 3 ∨ c.2 = 5 ∨ c.2 = 7) else
    (c.1 = 0 ∨ c.1 = 1) ∧ (c.2 = 1 ∨ c.2 = -1)

/-- A place. -/
def Pl (p : Int) : Prop := p = 0 ∨ Pr p

theorem pl_cases {p : Int} (h : Pl p) : p = 0 ∨ p = 2 ∨ (Pr p ∧ p ≠ 0 ∧ p ≠ 2) := by
  rcases h with h | h
  · exact Or.inl h
  · by_cases e : p = 2
    · exact Or.inr (Or.inl e)
    · exact Or.inr (Or.inr ⟨h, by have := h.1; omega, e⟩)

theorem pr_two : Pr 2 := ⟨by omega, fun d h1 h2 => by omega⟩

theorem odd_un {n : Int} (hn : n ≠ 0) : un n 2 % 2 = 1 := by
  have := un_not_dvd (p := 2) (by omega) hn
  omega

theorem odd_mod8 {u : Int} (h : u % 2 = 1) : u % 8 = 1 ∨ u % 8 = 3 ∨ u % 8 = 5 ∨ u % 8 = 7 := by omega

theorem cls_ok {p n : Int} (hp : Pl p) (hn : n ≠ 0) : ClsOk p (cls p n) := by
  rcases pl_cases hp with rfl | rfl | ⟨hq, h0, h2⟩
  · unfold ClsOk cls
    simp only [if_true]
    refine ⟨trivial, ?_⟩
    by_cases h : n > 0
    · rw [if_pos h]; exact Or.inl rfl
    · rw [if_neg h]; exact Or.inr rfl
  · unfold ClsOk cls
    rw [if_neg (by decide), if_pos rfl, if_neg (by decide), if_pos rfl]
    refine ⟨?_, odd_mod8 (odd_un hn)⟩
    show ((vl n 2 % 2 : Nat) : Int) = 0 ∨ ((vl n 2 % 2 : Nat) : Int) = 1
    omega
  · unfold ClsOk cls
    rw [if_neg h0, if_neg h2, if_neg h0, if_neg h2]
    refine ⟨?_, ?_⟩
    · show ((vl n p % 2 : Nat) : Int) = 0 ∨ ((vl n p % 2 : Nat) : Int) = 1
      omega
    · have := un_not_dvd hq.1 hn
      show leg (un n p) p = 1 ∨ leg (un n p) p = -1
      rcases leg_cases (un n p) p with h | h | h
      · exact absurd (leg_eq_zero.1 h) this
      · exact Or.inl h
      · exact Or.inr h

theorem cls_mul {p a b : Int} (hp : Pl p) (ha : a ≠ 0) (hb : b ≠ 0) : cls p (a * b) = mulc p (cls p a) (cls p b) := by
  rcases pl_cases hp with rfl | rfl | ⟨hq, h0, h2⟩
  · rw [cls_0, cls_0, cls_0, mulc_p (by omega)]
    refine Prod.ext rfl ?_
    show (if a * b > 0 then (1 : Int) else -1) = (if a > 0 then 1 else -1) * (if b > 0 then 1 else -1)
    by_cases h1 : a > 0
    · by_cases h2 : b > 0
      · rw [if_pos h1, if_pos h2, if_pos (Int.mul_pos h1 h2)]; rfl
      · rw [if_pos h1, if_neg h2, if_neg (by have := Int.mul_pos h1 (show 0 < -b by omega); rw [Int.mul_neg] at this; omega)]; rfl
    · by_cases h2 : b > 0
      · rw [if_neg h1, if_pos h2, if_neg (by have := Int.mul_pos (show 0 < -a by omega) h2; rw [Int.neg_mul] at this; omega)]; rfl
      · rw [if_neg h1, if_neg h2, if_pos (by have := Int.mul_pos (show 0 < -a by omega) (show 0 < -b by omega); rw [Int.neg_mul_neg] at this; omega)]; rfl
  · obtain ⟨e1, e2⟩ := vl_mul pr_two ha hb
    rw [cls_2, cls_2, cls_2, mulc_2, e1, e2]
    refine Prod.ext ?_ ?_
    · show (((vl a 2 + vl b 2) % 2 : Nat) : Int) = (((vl a 2 % 2 : Nat) : Int) + ((vl b 2 % 2 : Nat) : Int)) % 2
      omega
    · show un a 2 * un b 2 % 8 = un a 2 % 8 * (un b 2 % 8) % 8
      rw [Int.mul_emod]
  · obtain ⟨e1, e2⟩ := vl_mul hq ha hb
    rw [cls_p h0 h2, cls_p h0 h2, cls_p h0 h2, mulc_p h2, e1, e2]
    refine Prod.ext ?_ ?_
    · show (((vl a p + vl b p) % 2 : Nat) : Int) = (((vl a p % 2 : Nat) : Int) + ((vl b p % 2 : Nat) : Int)) % 2
      omega
    · exact leg_mul hq h2 _ _

theorem pair_eq {a b c d : Int} : (a, b) = (c, d) ↔ a = c ∧ b = d := by simp

theorem lsq_iff {p n : Int} (hp : Pl p) (hn : n ≠ 0) : lsq n p = true ↔ cls p n = (0, 1) := by
  rcases pl_cases hp with rfl | rfl | ⟨hq, h0, h2⟩
  · rw [lsq_0, cls_0, decide_eq_true_iff]
    by_cases h : n > 0
    · simp [h]
    · rw [if_neg h]; simp [h]
  · rw [lsq_2, cls_2, pair_eq]
    by_cases h : vl n 2 % 2 = 0
    · rw [if_pos h, h, decide_eq_true_iff]; simp
    · rw [if_neg h]
      constructor
      · intro h'; cases h'
      · intro h'; exact absurd h'.1 (by omega)
  · rw [lsq_p h0 h2, cls_p h0 h2, pair_eq]
    by_cases h : vl n p % 2 = 0
    · rw [if_pos h, h, decide_eq_true_iff]; simp
    · rw [if_neg h]
      constructor
      · intro h'; cases h'
      · intro h'; exact absurd h'.1 (by omega)

theorem mulc_eq_one {p : Int} {a b : Int × Int} (ha : ClsOk p a) (hb : ClsOk p b) : mulc p a b = (0, 1) ↔ a = b := by
  obtain ⟨a1, a2⟩ := a
  obtain ⟨b1, b2⟩ := b
  unfold mulc
  unfold ClsOk at ha hb
  by_cases h0 : p = 0
  · rw [if_pos h0] at ha hb
    rw [if_neg (by omega)]
    obtain ⟨h1, h2⟩ := ha
    obtain ⟨h3, h4⟩ := hb
    simp only at h1 h2 h3 h4
    subst h1; subst h3
    rcases h2 with rfl | rfl <;> rcases h4 with rfl | rfl <;> simp
  · rw [if_neg h0] at ha hb
    by_cases h2 : p = 2
    · rw [if_pos h2] at ha hb
      rw [if_pos h2]
      obtain ⟨h1, h2⟩ := ha
      obtain ⟨h3, h4⟩ := hb
      simp only at h1 h2 h3 h4
      rcases h1 with rfl | rfl <;> rcases h3 with rfl | rfl <;> rcases h2 with rfl | rfl | rfl | rfl <;> rcases h4 with rfl | rfl | rfl | rfl <;> simp
    · rw [if_neg h2] at ha hb
      rw [if_neg h2]
      obtain ⟨h1, h2⟩ := ha
      obtain ⟨h3, h4⟩ := hb
      simp only at h1 h2 h3 h4
      rcases h1 with rfl | rfl <;> rcases h3 with rfl | rfl <;> rcases h2 with rfl | rfl <;> rcases h4 with rfl | rfl <;> simp

theorem mulc_ok {p : Int} {a b : Int × Int} (ha : ClsOk p a) (hb : ClsOk p b) : ClsOk p (mulc p a b) := by
  obtain ⟨a1, a2⟩ := a
  obtain ⟨b1, b2⟩ := b
  unfold mulc ClsOk
  unfold ClsOk at ha hb
  by_cases h0 : p = 0
  · rw [if_pos h0] at ha hb
    rw [if_pos h0, if_neg (by omega)]
    obtain ⟨h1, h2⟩ := ha
    obtain ⟨h3, h4⟩ := hb
    simp only at h1 h2 h3 h4
    subst h1; subst h3
    rcases h2 with rfl | rfl <;> rcases h4 with rfl | rfl <;> simp
  · rw [if_neg h0] at ha hb
    rw [if_neg h0]
    by_cases h2 : p = 2
    · rw [if_pos h2] at ha hb
      rw [if_pos h2, if_pos h2]
      obtain ⟨h1, h2⟩ := ha
      obtain ⟨h3, h4⟩ := hb
      simp only at h1 h2 h3 h4
      rcases h1 with rfl | rfl <;> rcases h3 with rfl | rfl <;> rcases h2 with rfl | rfl | rfl | rfl <;> rcases h4 with rfl | rfl | rfl | rfl <;> simp
    · rw [if_neg h2] at ha hb
      rw [if_neg h2, if_neg h2]
      obtain ⟨h1, h2⟩ := ha
      obtain ⟨h3, h4⟩ := hb
      simp only at h1 h2 h3 h4
      rcases h1 with rfl | rfl <;> rcases h3 with rfl | rfl <;> rcases h2 with rfl | rfl <;> rcases h4 with rfl | rfl <;> simp

theorem mulc_comm (p : Int) (a b : Int × Int) : mulc p a b = mulc p b a := by
  unfold mulc; rw [Int.add_comm, Int.mul_comm a.2]

theorem cls_two (n : Int) (k : Nat) (u : Int) (h : n = 2 ^ k * u) (hu : ¬ (2 : Int) ∣ u) : cls 2 n = (((k % 2 : Nat) : Int), u % 8) := by
  obtain ⟨e1, e2⟩ := vl_un_of (p := 2) (by omega) h hu
  unfold cls
  rw [if_neg (by decide), if_pos rfl, e1, e2]

theorem cls_odd {p : Int} (hp : Pr p) (h2 : p ≠ 2) (n : Int) (k : Nat) (u : Int) (h : n = p ^ k * u) (hu : ¬ p ∣ u) : cls p n = (((k % 2 : Nat) : Int), leg u p) := by
  obtain ⟨e1, e2⟩ := vl_un_of hp.1 h hu
  unfold cls
  rw [if_neg (by have := hp.1; omega), if_neg h2, e1, e2]

/-- The name of a class is of that class. -/
theorem cls_name {p : Int} (hp : Pl p) {c : Int × Int} (hc : ClsOk p c) : cls p (nameC p c) = c ∧ nameC p c ≠ 0 := by
  obtain ⟨c1, c2⟩ := c
  rcases pl_cases hp with rfl | rfl | ⟨hq, h0, h2⟩
  · unfold ClsOk at hc
    rw [if_pos rfl] at hc
    obtain ⟨h1, h3⟩ := hc
    simp only at h1 h3
    subst h1
    unfold nameC cls
    rcases h3 with rfl | rfl <;> simp
  · unfold ClsOk at hc
    rw [if_neg (by decide), if_pos rfl] at hc
    obtain ⟨h1, h3⟩ := hc
    simp only at h1 h3
    rw [nameC_2]
    rcases h1 with rfl | rfl
    · rw [if_pos rfl]
      rcases h3 with rfl | rfl | rfl | rfl
      · exact ⟨cls_two 1 0 1 (by decide) (by decide), by decide⟩
      · exact ⟨cls_two 3 0 3 (by decide) (by decide), by decide⟩
      · exact ⟨cls_two 5 0 5 (by decide) (by decide), by decide⟩
      · exact ⟨cls_two 7 0 7 (by decide) (by decide), by decide⟩
    · rw [if_neg (by omega)]
      rcases h3 with rfl | rfl | rfl | rfl
      · exact ⟨cls_two 2 1 1 (by decide) (by decide), by decide⟩
      · exact ⟨cls_two 6 1 3 (by decide) (by decide), by decide⟩
      · exact ⟨cls_two 10 1 5 (by decide) (by decide), by decide⟩
      · exact ⟨cls_two 14 1 7 (by decide) (by decide), by decide⟩
  · unfold ClsOk at hc
    rw [if_neg h0, if_neg h2] at hc
    obtain ⟨h1, h3⟩ := hc
    simp only at h1 h3
    obtain ⟨n1, n2, n3, n4⟩ := nr_spec hq h2
    have hp1 := hq.1
    have hno := leg_eq_neg.1 n3
    have l1 := leg_of_one hq
    unfold nameC
    rw [if_neg h0, if_neg h2]
    rcases h1 with rfl | rfl
    · rw [if_pos rfl]
      rcases h3 with rfl | rfl
      · rw [if_pos rfl]
        refine ⟨?_, by omega⟩
        rw [cls_odd hq h2 1 0 1 (by simp) hq.not_dvd_one, l1]; rfl
      · rw [if_neg (by simp)]
        refine ⟨?_, by omega⟩
        rw [cls_odd hq h2 _ 0 (nrOf p) (by simp) hno.1, n3]; rfl
    · rw [if_neg (by simp)]
      rcases h3 with rfl | rfl
      · rw [if_pos rfl]
        refine ⟨?_, h0⟩
        rw [cls_odd hq h2 p 1 1 (by rw [Int.pow_succ, Int.pow_zero, Int.one_mul, Int.mul_one]) hq.not_dvd_one, l1]; rfl
      · rw [if_neg (by simp)]
        refine ⟨?_, Int.mul_ne_zero h0 (by omega)⟩
        rw [cls_odd hq h2 _ 1 (nrOf p) (by rw [Int.pow_succ, Int.pow_zero, Int.one_mul]) hno.1, n3]; rfl

theorem name_mem {p : Int} (hp : Pl p) {c : Int × Int} (hc : ClsOk p c) : nameC p c ∈ namesL p := by
  obtain ⟨c1, c2⟩ := c
  rcases pl_cases hp with rfl | rfl | ⟨hq, h0, h2⟩
  · unfold ClsOk at hc
    rw [if_pos rfl] at hc
    obtain ⟨h1, h3⟩ := hc
    simp only at h1 h3
    unfold nameC namesL
    rcases h3 with rfl | rfl <;> simp
  · unfold ClsOk at hc
    rw [if_neg (by decide), if_pos rfl] at hc
    obtain ⟨h1, h3⟩ := hc
    simp only at h1 h3
    unfold nameC namesL
    rcases h1 with rfl | rfl <;> rcases h3 with rfl | rfl | rfl | rfl <;> simp
  · unfold ClsOk at hc
    rw [if_neg h0, if_neg h2] at hc
    obtain ⟨h1, h3⟩ := hc
    simp only at h1 h3
    unfold nameC namesL
    rcases h1 with rfl | rfl <;> rcases h3 with rfl | rfl <;> simp [h0, h2]

theorem mem_name {p m : Int} (hp : Pl p) (hm : m ∈ namesL p) : ∃ c, ClsOk p c ∧ m = nameC p c := by
  rcases pl_cases hp with rfl | rfl | ⟨hq, h0, h2⟩
  · unfold namesL at hm
    rw [if_pos rfl] at hm
    simp only [List.mem_cons, List.not_mem_nil, or_false] at hm
    rcases hm with rfl | rfl
    · exact ⟨(0, 1), by simp [ClsOk], by simp [nameC]⟩
    · exact ⟨(0, -1), by simp [ClsOk], by simp [nameC]⟩
  · unfold namesL at hm
    rw [if_neg (by decide), if_pos rfl] at hm
    simp only [List.mem_cons, List.not_mem_nil, or_false] at hm
    rcases hm with rfl | rfl | rfl | rfl | rfl | rfl | rfl | rfl
    · exact ⟨(0, 1), by simp [ClsOk], by simp [nameC]⟩
    · exact ⟨(0, 3), by simp [ClsOk], by simp [nameC]⟩
    · exact ⟨(0, 5), by simp [ClsOk], by simp [nameC]⟩
    · exact ⟨(0, 7), by simp [ClsOk], by simp [nameC]⟩
    · exact ⟨(1, 1), by simp [ClsOk], by simp [nameC]⟩
    · exact ⟨(1, 3), by simp [ClsOk], by simp [nameC]⟩
    · exact ⟨(1, 5), by simp [ClsOk], by simp [nameC]⟩
    · exact ⟨(1, 7), by simp [ClsOk], by simp [nameC]⟩
  · unfold namesL at hm
    rw [if_neg h0, if_neg h2] at hm
    simp only [List.mem_cons, List.not_mem_nil, or_false] at hm
    rcases hm with rfl | rfl | rfl | rfl
    · exact ⟨(0, 1), by simp [ClsOk, h0, h2], by simp [nameC, h0, h2]⟩
    · exact ⟨(0, -1), by simp [ClsOk, h0, h2], by simp [nameC, h0, h2]⟩
    · exact ⟨(1, 1), by simp [ClsOk, h0, h2], by simp [nameC, h0, h2]⟩
    · exact ⟨(1, -1), by simp [ClsOk, h0, h2], by simp [nameC, h0, h2]⟩

/-- The name of a number's class. -/
noncomputable def nm (n p : Int) : Int := nameC p (cls p n)

theorem nm_mem {p n : Int} (hp : Pl p) (hn : n ≠ 0) : nm n p ∈ namesL p := name_mem hp (cls_ok hp hn)
theorem cls_nm {p n : Int} (hp : Pl p) (hn : n ≠ 0) : cls p (nm n p) = cls p n := (cls_name hp (cls_ok hp hn)).1
theorem nm_ne {p n : Int} (hp : Pl p) (hn : n ≠ 0) : nm n p ≠ 0 := (cls_name hp (cls_ok hp hn)).2

theorem mem_ne {p m : Int} (hp : Pl p) (hm : m ∈ namesL p) : m ≠ 0 := by
  obtain ⟨c, hc, rfl⟩ := mem_name hp hm
  exact (cls_name hp hc).2

/-- Of the names exactly the class's own makes a local square of the product. -/
theorem lsq_name {p n m : Int} (hp : Pl p) (hn : n ≠ 0) (hm : m ∈ namesL p) : lsq (n * m) p = true ↔ m = nm n p := by
  obtain ⟨c, hc, rfl⟩ := mem_name hp hm
  obtain ⟨e1, e2⟩ := cls_name hp hc
  rw [lsq_iff hp (Int.mul_ne_zero hn e2), cls_mul hp hn e2, e1, mulc_eq_one (cls_ok hp hn) hc]
  constructor
  · intro h; unfold nm; rw [h]
  · intro h
    rw [← cls_nm hp hn, ← h, e1]

theorem nm_of_mem {p m : Int} (hp : Pl p) (hm : m ∈ namesL p) : nm m p = m := by
  obtain ⟨c, hc, rfl⟩ := mem_name hp hm
  unfold nm; rw [(cls_name hp hc).1]

theorem nm_mul {p a b : Int} (hp : Pl p) (ha : a ≠ 0) (hb : b ≠ 0) : nm (a * b) p = nameC p (mulc p (cls p a) (cls p b)) := by
  unfold nm; rw [cls_mul hp ha hb]

theorem lsq_mul_self {p a : Int} (hp : Pl p) (ha : a ≠ 0) : lsq (a * a) p = true := by
  rw [lsq_iff hp (Int.mul_ne_zero ha ha), cls_mul hp ha ha, mulc_eq_one (cls_ok hp ha) (cls_ok hp ha)]

theorem lsq_mul_sq {p n k : Int} (hp : Pl p) (hn : n ≠ 0) (hk : k ≠ 0) : lsq (n * (k * k)) p = lsq n p := by
  have hkk := Int.mul_ne_zero hk hk
  have h1 : cls p (k * k) = (0, 1) := (lsq_iff hp hkk).1 (lsq_mul_self hp hk)
  have : cls p (n * (k * k)) = cls p n := by
    rw [cls_mul hp hn hkk, h1]
    have hc := cls_ok hp hn
    generalize cls p n = c at hc
    obtain ⟨c1, c2⟩ := c
    unfold ClsOk at hc
    unfold mulc
    by_cases h0 : p = 0
    · rw [if_pos h0] at hc
      obtain ⟨h2, h3⟩ := hc
      simp only at h2 h3
      subst h2; simp [h0]
    · rw [if_neg h0] at hc
      by_cases h2 : p = 2
      · rw [if_pos h2] at hc
        obtain ⟨h4, h3⟩ := hc
        simp only at h4 h3
        rcases h4 with rfl | rfl <;> rcases h3 with rfl | rfl | rfl | rfl <;> simp [h2]
      · rw [if_neg h2] at hc
        obtain ⟨h4, h3⟩ := hc
        simp only at h4 h3
        rcases h4 with rfl | rfl <;> rcases h3 with rfl | rfl <;> simp [h2]
  rw [Bool.eq_iff_iff, lsq_iff hp (Int.mul_ne_zero hn hkk), lsq_iff hp hn, this]

theorem plB_pl {p : Int} (h : plB p = true) : Pl p ∧ 0 ≤ p ∧ p ≤ 5000 := by
  rcases plB_true.1 h with h | h
  · exact ⟨Or.inl h, by omega, by omega⟩
  · exact ⟨Or.inr h.1, by have := h.1.1; omega, h.2⟩

/-- The size of names. -/
theorem names_bd {p m : Int} (hp : Pl p) (h5 : p ≤ 5000) (hm : m ∈ namesL p) : -25000000 ≤ m ∧ m ≤ 25000000 := by
  rcases pl_cases hp with rfl | rfl | ⟨hq, h0, h2⟩
  · unfold namesL at hm
    rw [if_pos rfl] at hm
    simp only [List.mem_cons, List.not_mem_nil, or_false] at hm
    omega
  · unfold namesL at hm
    rw [if_neg (by decide), if_pos rfl] at hm
    simp only [List.mem_cons, List.not_mem_nil, or_false] at hm
    omega
  · unfold namesL at hm
    rw [if_neg h0, if_neg h2] at hm
    obtain ⟨n1, n2, n3, n4⟩ := nr_spec hq h2
    have := mul_bd (show 0 ≤ p by have := hq.1; omega) h5 (show 0 ≤ nrOf p by omega) (show nrOf p ≤ 5000 by omega)
    simp only [List.mem_cons, List.not_mem_nil, or_false] at hm
    omega

/-! ### Named results of the chapter -/
noncomputable def lsqOf (n p : Int) : Bool := decide (n ≠ 0) && numB n && plB p && lsq n p
noncomputable def nameOf (n p : Int) : Int × Bool := if n ≠ 0 ∧ numB n = true ∧ plB p = true then (nm n p, true) else (0, false)
noncomputable def namesOf (p : Int) : List Int × Bool := if plB p = true then (namesL p, true) else ([], false)
noncomputable def sameOf (a b p : Int) : Bool := decide (a ≠ 0) && decide (b ≠ 0) && numB a && numB b && plB p && lsq (a * b) p
noncomputable def lmulOf (a b p : Int) : Int × Bool := if a ≠ 0 ∧ b ≠ 0 ∧ numB a = true ∧ numB b = true ∧ plB p = true then (nm (a * b) p, true) else (0, false)
noncomputable def nonOf (p : Int) : Int × Bool := if prB p = true ∧ p ≠ 2 then (nrOf p, true) else (0, false)
noncomputable def resOf (n p : Int) : Int := if numB n = true ∧ prB p = true ∧ p ≠ 2 then leg n p else -2

end Go.Proofs.LG
