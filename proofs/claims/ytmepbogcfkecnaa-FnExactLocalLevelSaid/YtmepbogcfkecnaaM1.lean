/- Plain arithmetic: primes, Euclid's lemma, Fermat, roots of a polynomial up to a prime, Euler's criterion. -/
set_option linter.unusedVariables false
set_option linter.unusedSimpArgs false
namespace Go.Proofs.LG

/-- A prime. -/
def Pr (p : Int) : Prop := 2 ≤ p ∧ ∀ d : Int, 2 ≤ d → d < p → ¬ d ∣ p

theorem Pr.two_le {p : Int} (h : Pr p) : 2 ≤ p := h.1

theorem Pr.gcd_one {p a : Int} (hp : Pr p) (h : ¬ p ∣ a) : Int.gcd p a = 1 := by
  have h2 := hp.1
  have hd : (Int.gcd p a : Int) ∣ p := Int.gcd_dvd_left ..
  have ha : (Int.gcd p a : Int) ∣ a := Int.gcd_dvd_right ..
  have hpos : 0 < Int.gcd p a := Int.gcd_pos_of_ne_zero_left _ (by omega)
  have hle := Int.gcd_le_left a (show 0 < p by omega)
  by_cases e1 : Int.gcd p a = 1
  · exact e1
  · by_cases e2 : (Int.gcd p a : Int) = p
    · rw [e2] at ha; exact absurd ha h
    · exact absurd hd (hp.2 _ (by omega) (by omega))

theorem Pr.dvd_mul {p a b : Int} (hp : Pr p) (h : p ∣ a * b) : p ∣ a ∨ p ∣ b := by
  by_cases ha : p ∣ a
  · exact Or.inl ha
  · right
    have g := hp.gcd_one ha
    have e : Int.gcd p (a * b) = Int.gcd p b := Int.gcd_mul_right_right_of_gcd_eq_one g
    have : (Int.gcd p (a * b) : Int) = p := Int.gcd_eq_left (by have := hp.1; omega) h
    rw [e] at this
    rw [← this]
    exact Int.gcd_dvd_right ..

theorem Pr.not_dvd_mul {p a b : Int} (hp : Pr p) (ha : ¬ p ∣ a) (hb : ¬ p ∣ b) : ¬ p ∣ a * b :=
  fun h => (hp.dvd_mul h).elim ha hb

theorem Pr.not_dvd_one {p : Int} (hp : Pr p) : ¬ p ∣ 1 := by
  intro h
  have := Int.eq_one_of_dvd_one (by have := hp.1; omega) h
  have := hp.1; omega

theorem Pr.not_dvd_small {p a : Int} (h1 : 1 ≤ a) (h2 : a < p) : ¬ p ∣ a := by
  intro h
  have := Int.le_of_dvd (by omega) h
  omega

theorem not_dvd_small {p a : Int} (h1 : a ≠ 0) (h2 : a < p) (h3 : -p < a) : ¬ p ∣ a := by
  intro h
  by_cases h0 : 0 < a
  · have := Int.le_of_dvd h0 h; omega
  · have := Int.le_of_dvd (by omega) (Int.dvd_neg.2 h); omega

theorem Pr.not_dvd_pow {p a : Int} (hp : Pr p) (h : ¬ p ∣ a) : ∀ n : Nat, ¬ p ∣ a ^ n
  | 0 => by rw [Int.pow_zero]; exact hp.not_dvd_one
  | n + 1 => by rw [Int.pow_succ]; exact hp.not_dvd_mul (hp.not_dvd_pow h n) h

theorem Pr.dvd_of_dvd_pow {p a : Int} (hp : Pr p) {n : Nat} (h : p ∣ a ^ n) : p ∣ a := by
  by_cases h' : p ∣ a
  · exact h'
  · exact absurd h (hp.not_dvd_pow h' n)

/-! ### Lists of numbers from 1 to n without repetition -/
def prodL : List Int → Int
  | [] => 1
  | x :: l => x * prodL l
def facI : Nat → Int
  | 0 => 1
  | n + 1 => ((n : Int) + 1) * facI n

theorem nodup_le : ∀ (n : Nat) (l : List Int), l.Nodup → (∀ x ∈ l, 1 ≤ x ∧ x ≤ n) → l.length ≤ n
  | 0, l, hn, h => by
    match l with
    | [] => simp
    | x :: _ => have := h x (by simp); omega
  | n + 1, l, hn, h => by
    by_cases hm : ((n : Int) + 1) ∈ l
    · have := nodup_le n (l.erase ((n : Int) + 1)) (hn.erase _) (fun x hx => by
        have h1 := (List.Nodup.mem_erase_iff hn).1 hx
        have := h x h1.2; have := h1.1; omega)
      rw [List.length_erase_of_mem hm] at this
      omega
    · have := nodup_le n l hn (fun x hx => by
        have h1 := h x hx
        have : x ≠ (n : Int) + 1 := fun e => hm (e ▸ hx)
        omega)
      omega

theorem prod_erase {x : Int} : ∀ {l : List Int}, x ∈ l → prodL l = x * prodL (l.erase x)
  | y :: l, h => by
    by_cases e : y = x
    · subst e; simp [prodL]
    · have hx : x ∈ l := by
        rcases List.mem_cons.1 h with h | h
        · exact absurd h.symm e
        · exact h
      rw [List.erase_cons_tail (by simp [e])]
      simp only [prodL]
      rw [prod_erase hx]
      simp only [Int.mul_left_comm]

theorem prod_all : ∀ (n : Nat) (l : List Int), l.Nodup → (∀ x ∈ l, 1 ≤ x ∧ x ≤ n) → l.length = n → prodL l = facI n
  | 0, l, hn, h, hl => by
    match l with
    | [] => rfl
  | n + 1, l, hn, h, hl => by
    by_cases hm : ((n : Int) + 1) ∈ l
    · have := prod_all n (l.erase ((n : Int) + 1)) (hn.erase _) (fun x hx => by
        have h1 := (List.Nodup.mem_erase_iff hn).1 hx
        have := h x h1.2; have := h1.1; omega) (by rw [List.length_erase_of_mem hm]; omega)
      rw [prod_erase hm, this]; rfl
    · have := nodup_le n l hn (fun x hx => by
        have h1 := h x hx
        have : x ≠ (n : Int) + 1 := fun e => hm (e ▸ hx)
        omega)
      omega

/-- The numbers 1 .. n. -/
def upto (n : Nat) : List Int := (List.range n).map fun (i : Nat) => (i : Int) + 1

theorem mem_upto {n : Nat} {x : Int} : x ∈ upto n ↔ 1 ≤ x ∧ x ≤ n := by
  unfold upto
  simp only [List.mem_map, List.mem_range]
  constructor
  · rintro ⟨i, hi, rfl⟩; omega
  · intro h; exact ⟨(x - 1).toNat, by omega, by omega⟩

theorem upto_length (n : Nat) : (upto n).length = n := by simp [upto]

theorem nodup_map_on {f : Int → Int} : ∀ {l : List Int}, l.Nodup → (∀ x ∈ l, ∀ y ∈ l, f x = f y → x = y) → (l.map f).Nodup
  | [], _, _ => by simp
  | x :: l, hn, h => by
    rw [List.nodup_cons] at hn
    rw [List.map_cons, List.nodup_cons]
    refine ⟨?_, nodup_map_on hn.2 fun a ha b hb => h a (by simp [ha]) b (by simp [hb])⟩
    intro hm
    obtain ⟨y, hy, e⟩ := List.mem_map.1 hm
    have := h y (by simp [hy]) x (by simp) e
    exact hn.1 (this ▸ hy)

theorem upto_nodup (n : Nat) : (upto n).Nodup := by
  unfold upto
  have h : (List.range n).Nodup := List.nodup_range
  revert h
  generalize List.range n = l
  intro h
  induction l with
  | nil => simp
  | cons a l ih =>
    rw [List.nodup_cons] at h
    rw [List.map_cons, List.nodup_cons]
    refine ⟨?_, ih h.2⟩
    intro hm
    obtain ⟨y, hy, e⟩ := List.mem_map.1 hm
    have : y = a := by omega
    exact h.1 (this ▸ hy)

theorem prod_mod (p a : Int) : ∀ l : List Int, p ∣ prodL (l.map fun x => a * x % p) - a ^ l.length * prodL l
  | [] => by simp [prodL]
  | x :: l => by
    have ih := prod_mod p a l
    have h1 : p ∣ a * x % p - a * x := Int.dvd_emod_sub_self
    simp only [List.map_cons, prodL, List.length_cons, Int.pow_succ]
    obtain ⟨c, hc⟩ := ih
    obtain ⟨d, hd⟩ := h1
    have e1 : a * x % p = a * x + p * d := by omega
    have e2 : prodL (l.map fun x => a * x % p) = a ^ l.length * prodL l + p * c := by omega
    rw [e1, e2]
    exact ⟨a * x * c + d * (a ^ l.length * prodL l) + d * p * c, by grind⟩

theorem fac_not_dvd {p : Int} (hp : Pr p) : ∀ n : Nat, (n : Int) < p → ¬ p ∣ facI n
  | 0, _ => hp.not_dvd_one
  | n + 1, h => by
    refine hp.not_dvd_mul ?_ (fac_not_dvd hp n (by omega))
    exact Pr.not_dvd_small (by omega) (by omega)

/-- Fermat. -/
theorem fermat {p a : Int} (hp : Pr p) (ha : ¬ p ∣ a) : p ∣ a ^ (p - 1).toNat - 1 := by
  have h2 := hp.1
  have hpos : 0 < p := by omega
  let n := (p - 1).toNat
  have hn : (n : Int) = p - 1 := by show ((p - 1).toNat : Int) = p - 1; omega
  have hprod : prodL ((upto n).map fun x => a * x % p) = facI n := by
    refine prod_all n _ ?_ ?_ (by simp [upto_length])
    · refine nodup_map_on (upto_nodup n) fun x hx y hy e => ?_
      have hx := mem_upto.1 hx
      have hy := mem_upto.1 hy
      have hd : p ∣ a * (x - y) := by
        rw [Int.mul_sub]
        exact Int.dvd_of_emod_eq_zero (Int.emod_eq_emod_iff_emod_sub_eq_zero.1 e)
      rcases hp.dvd_mul hd with h | h
      · exact absurd h ha
      · by_cases e0 : x - y = 0
        · omega
        · exact absurd h (not_dvd_small e0 (by omega) (by omega))
    · intro y hy
      obtain ⟨x, hx, rfl⟩ := List.mem_map.1 hy
      have hx := mem_upto.1 hx
      have h0 := Int.emod_nonneg (a * x) (show p ≠ 0 by omega)
      have h1 := Int.emod_lt_of_pos (a * x) hpos
      have hne : a * x % p ≠ 0 := by
        intro e
        exact hp.not_dvd_mul ha (Pr.not_dvd_small (by omega) (by omega)) (Int.dvd_of_emod_eq_zero e)
      omega
  have hup : prodL (upto n) = facI n := prod_all n _ (upto_nodup n) (fun x hx => mem_upto.1 hx) (upto_length n)
  have hm := prod_mod p a (upto n)
  rw [hprod, hup, upto_length] at hm
  have : p ∣ (a ^ n - 1) * facI n := by
    have := Int.dvd_neg.2 hm
    have e : -(facI n - a ^ n * facI n) = (a ^ n - 1) * facI n := by grind
    rwa [e] at this
  exact (hp.dvd_mul this).elim id fun h => absurd h (fac_not_dvd hp n (by omega))

/-- An inverse up to a prime. -/
theorem inverse {p a : Int} (hp : Pr p) (ha : ¬ p ∣ a) : ∃ b, p ∣ a * b - 1 := by
  have h2 := hp.1
  refine ⟨a ^ ((p - 1).toNat - 1), ?_⟩
  have := fermat hp ha
  have e : (p - 1).toNat = ((p - 1).toNat - 1) + 1 := by omega
  rw [e, Int.pow_succ, Int.mul_comm] at this
  exact this

/-! ### Polynomials with leading coefficient 1 -/
def pol : List Int → Int → Int
  | [], _ => 1
  | c :: cs, x => c + x * pol cs x
def quo (r : Int) : List Int → List Int
  | [] => []
  | [_] => []
  | _ :: d :: cs => pol (d :: cs) r :: quo r (d :: cs)

theorem quo_length (r : Int) : ∀ c cs, (quo r (c :: cs)).length = cs.length
  | _, [] => rfl
  | _, d :: cs => by simp [quo, quo_length r d cs]

theorem pol_quo (r x : Int) : ∀ c cs, pol (c :: cs) x = (x - r) * pol (quo r (c :: cs)) x + pol (c :: cs) r
  | c, [] => by simp only [pol, quo]; grind
  | c, d :: cs => by
    have ih := pol_quo r x d cs
    have e1 : ∀ y, pol (c :: d :: cs) y = c + y * pol (d :: cs) y := fun _ => rfl
    have e2 : pol (quo r (c :: d :: cs)) x = pol (d :: cs) r + x * pol (quo r (d :: cs)) x := rfl
    rw [e1, e1, e2, ih]
    grind

theorem roots_le {p : Int} (hp : Pr p) : ∀ (n : Nat) (cs l : List Int), cs.length = n → (l.Pairwise fun x y => ¬ p ∣ y - x) → (∀ x ∈ l, p ∣ pol cs x) → l.length ≤ n
  | 0, cs, l, hc, hl, h => by
    match cs, l with
    | [], [] => simp
    | [], x :: _ => exact absurd (h x (by simp)) hp.not_dvd_one
  | n + 1, cs, l, hc, hl, h => by
    match cs, l with
    | _, [] => simp
    | c :: cs, r :: l =>
      rw [List.pairwise_cons] at hl
      have hr := h r (by simp)
      have := roots_le hp n (quo r (c :: cs)) l (by rw [quo_length]; simpa using hc) hl.2 (fun x hx => by
        have h1 := h x (by simp [hx])
        rw [pol_quo r x c cs] at h1
        have h2 := (Int.dvd_add_left hr).1 h1
        exact (hp.dvd_mul h2).elim (fun h => absurd h (hl.1 x hx)) id)
      simp only [List.length_cons]
      omega

theorem pol_zeros (x : Int) : ∀ n : Nat, pol (List.replicate n 0) x = x ^ n
  | 0 => by simp [pol]
  | n + 1 => by rw [List.replicate_succ, pol, pol_zeros x n, Int.pow_succ]; grind

/-- x ^ (n+1) - 1 has at most n + 1 roots. -/
theorem power_roots {p : Int} (hp : Pr p) (n : Nat) (l : List Int) (hl : l.Pairwise fun x y => ¬ p ∣ y - x) (h : ∀ x ∈ l, p ∣ x ^ (n + 1) - 1) : l.length ≤ n + 1 := by
  refine roots_le hp (n + 1) ((-1) :: List.replicate n 0) l (by simp) hl fun x hx => ?_
  have := h x hx
  rw [pol, pol_zeros]
  have e : -1 + x * x ^ n = x ^ (n + 1) - 1 := by rw [Int.pow_succ]; grind
  rw [e]; exact this

/-! ### Squares up to an odd prime -/
def IsRes (p a : Int) : Prop := ∃ x, p ∣ x * x - a

theorem pow_sub_dvd (a b p : Int) (h : p ∣ a - b) : ∀ n : Nat, p ∣ a ^ n - b ^ n
  | 0 => by simp
  | n + 1 => by
    have ih := pow_sub_dvd a b p h n
    have e : a ^ (n + 1) - b ^ (n + 1) = a ^ n * (a - b) + (a ^ n - b ^ n) * b := by
      rw [Int.pow_succ, Int.pow_succ]; grind
    rw [e]
    exact Int.dvd_add (Int.dvd_mul_of_dvd_right h) (Int.dvd_mul_of_dvd_left ih)

theorem euler_yes {p a : Int} (hp : Pr p) (h : Nat) (hh : p = 2 * (h : Int) + 1) (ha : ¬ p ∣ a) (hr : IsRes p a) : p ∣ a ^ h - 1 := by
  obtain ⟨x, hx⟩ := hr
  have hx' : ¬ p ∣ x := fun hd => ha (by
    have : p ∣ x * x := Int.dvd_mul_of_dvd_left hd
    have e : a = x * x - (x * x - a) := by omega
    rw [e]; exact Int.dvd_sub this hx)
  have f := fermat hp hx'
  have e : (p - 1).toNat = 2 * h := by omega
  rw [e, Int.pow_mul] at f
  have hs := pow_sub_dvd (x * x) a p hx h
  have e2 : x ^ 2 = x * x := by rw [Int.pow_succ, Int.pow_succ, Int.pow_zero, Int.one_mul]
  rw [e2] at f
  have e3 : a ^ h - 1 = ((x * x) ^ h - 1) - ((x * x) ^ h - a ^ h) := by omega
  rw [e3]; exact Int.dvd_sub f hs

theorem squares_apart {p : Int} (hp : Pr p) (h : Nat) (hh : p = 2 * (h : Int) + 1) : ((upto h).map fun x => x * x).Pairwise fun x y => ¬ p ∣ y - x := by
  rw [List.pairwise_map]
  refine List.Pairwise.imp_of_mem ?_ (upto_nodup h)
  intro x y hx hy hne
  have hx := mem_upto.1 hx
  have hy := mem_upto.1 hy
  have e : y * y - x * x = (y - x) * (y + x) := by grind
  rw [e]
  exact hp.not_dvd_mul (not_dvd_small (by omega) (by omega) (by omega)) (not_dvd_small (by omega) (by omega) (by omega))

theorem euler_no {p a : Int} (hp : Pr p) (h : Nat) (hh : p = 2 * (h : Int) + 1) (ha : ¬ p ∣ a) (hr : ¬ IsRes p a) : p ∣ a ^ h + 1 := by
  have h2 := hp.1
  obtain ⟨n, rfl⟩ : ∃ n, h = n + 1 := ⟨h - 1, by omega⟩
  have hno : ¬ p ∣ a ^ (n + 1) - 1 := by
    intro hd
    have := power_roots hp n (a :: (upto (n + 1)).map fun x => x * x) (by
        rw [List.pairwise_cons]
        refine ⟨fun y hy => ?_, squares_apart hp (n + 1) hh⟩
        obtain ⟨x, hx, rfl⟩ := List.mem_map.1 hy
        exact fun hd => hr ⟨x, hd⟩) (fun y hy => by
        rcases List.mem_cons.1 hy with rfl | hy
        · exact hd
        · obtain ⟨x, hx, rfl⟩ := List.mem_map.1 hy
          have hx := mem_upto.1 hx
          have hx' : ¬ p ∣ x := Pr.not_dvd_small (by omega) (by omega)
          exact euler_yes hp (n + 1) hh (hp.not_dvd_mul hx' hx') ⟨x, by simp⟩)
    simp only [List.length_cons, List.length_map, upto_length] at this
    omega
  have f := fermat hp ha
  have e : (p - 1).toNat = (n + 1) * 2 := by omega
  rw [e, Int.pow_mul] at f
  have e2 : (a ^ (n + 1)) ^ 2 - 1 = (a ^ (n + 1) - 1) * (a ^ (n + 1) + 1) := by
    rw [Int.pow_succ, Int.pow_succ, Int.pow_zero, Int.one_mul]; grind
  rw [e2] at f
  exact (hp.dvd_mul f).elim (fun h => absurd h hno) id

/-- There is a number below an odd prime that is no square up to it. -/
theorem nonres_exists {p : Int} (hp : Pr p) (h : Nat) (hh : p = 2 * (h : Int) + 1) : ∃ u, 2 ≤ u ∧ u < p ∧ ¬ IsRes p u := by
  have h2 := hp.1
  obtain ⟨n, rfl⟩ : ∃ n, h = n + 1 := ⟨h - 1, by omega⟩
  refine Classical.byContradiction fun hno => ?_
  have hall : ∀ u, 1 ≤ u → u < p → IsRes p u := by
    intro u h1 hu
    by_cases e : u = 1
    · exact ⟨1, by simp [e]⟩
    · exact Classical.byContradiction fun hc => hno ⟨u, by omega, hu, hc⟩
  have := power_roots hp n (upto (2 * (n + 1))) (by
      refine List.Pairwise.imp_of_mem ?_ (upto_nodup _)
      intro x y hx hy hne
      have hx := mem_upto.1 hx
      have hy := mem_upto.1 hy
      exact not_dvd_small (by omega) (by omega) (by omega)) (fun x hx => by
      have hx := mem_upto.1 hx
      exact euler_yes hp (n + 1) hh (Pr.not_dvd_small (by omega) (by omega)) (hall x (by omega) (by omega)))
  rw [upto_length] at this
  omega

end Go.Proofs.LG
