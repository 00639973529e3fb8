-- PRINTED BY print.sh 35421559b90ae4d0a3588c463048766b98c2df88dd9212a6774a882060cdf62d: not written by this session
import Derived.Test.YtnbjnlbaoogbmaaPFnNonResiduex0
import Derived.Test.YtnbjnlbaoogbmaaPFnNonResiduex1
namespace Go.Proofs.Ytnbjnlbaoogbmaa.PFnNonResidue
open Go.RowKit Go.Proofs.YtnbjnlbaoogbmaaW.PrintWords Go.Proofs.YtnbjnlbaoogbmaaW.PrintLast Go.Proofs.YtnbjnlbaoogbmaaW.PrintMore
attribute [local go_sem] max2_int min2_int max_two min_two max_three min_three max_four min_four   -- for this text's walks alone
set_option linter.unusedVariables false
set_option linter.unusedSimpArgs false

/-! ### spec_PrimeIs: function 35 -/
def spec_PrimeIs.l0 : Nat → Int → Int → Option (Bool)
  | 0, _, _ => none
  | k + 1, x0, x3 => if (wrap64 (x3 * x3)) ≤ x0 then (if x3 = 0 then (none) else (if (Int.tmod x0 x3) = 0 then (some false) else (spec_PrimeIs.l0 k x0 (wrap64 (x3 + 1))))) else (some true)
def spec_PrimeIs.f (k : Nat) (a0 : Int) : Option (Bool) := (spec_l6In.f a0 2 5000).bind fun t121 => (if t121 = true then (spec_PrimeIs.l0 k a0 2) else (some false))
theorem spec_PrimeIs.mono_l : ∀ k, (∀ y0 y1, LeO (spec_PrimeIs.l0 k y0 y1) (spec_PrimeIs.l0 (k + 1) y0 y1))
  | 0 => fun _ _ r h => by simp [spec_PrimeIs.l0] at h
  | k + 1 => by
    have ih0 := spec_PrimeIs.mono_l k
    · intro y0 y1
      unfold spec_PrimeIs.l0
      repeat' first
      | (with_reducible exact ih0 _ _)
      | (with_reducible exact LeO.refl _)
      | (with_reducible exact LeO.none _)
      | (with_reducible refine LeO.ite ?_ ?_)
      | (with_reducible refine LeO.bind ?_ (fun _ => ?_))
      | exact ih0 _ _
      | exact LeO.none _
      | refine LeO.ite ?_ ?_
      | refine LeO.bind ?_ (fun _ => ?_)
theorem spec_PrimeIs.mono : ∀ a0 k, LeO (spec_PrimeIs.f k a0) (spec_PrimeIs.f (k + 1) a0) := by
  intro a0 k
  have ih0 := spec_PrimeIs.mono_l k
  unfold spec_PrimeIs.f
  repeat' first
      | (with_reducible exact ih0 _ _)
      | (with_reducible exact LeO.refl _)
      | (with_reducible exact LeO.none _)
      | (with_reducible refine LeO.ite ?_ ?_)
      | (with_reducible refine LeO.bind ?_ (fun _ => ?_))
      | exact ih0 _ _
      | exact LeO.none _
      | refine LeO.ite ?_ ?_
      | refine LeO.bind ?_ (fun _ => ?_)
set_option maxHeartbeats 8000000 in
set_option maxRecDepth 100000 in
theorem spec_PrimeIs.calls (k : Nat) (a0 : Int) (r : Bool) (w : World) (h : spec_PrimeIs.f k a0 = some r) :
    Calls Try.prog 35 #[.int .i64 a0] w fun e w' => e = .returned (.bool r) ∧ Drawn0 w w' := by
  have H : ((spec_l6In.f a0 2 5000).bind fun t121 => (if t121 = true then (spec_PrimeIs.l0 k a0 2) else (some false))) = some r := h
  clear h
  replace H := Option.bind_eq_some_iff.mp H
  obtain ⟨t121, A20, H⟩ := H
  replace H : (if t121 = true then (spec_PrimeIs.l0 k a0 2) else (some false)) = some r := H
  have A2 := Aside0.mk A20
  clear A20
  by_cases c3 : t121 = true
  · subst c3
    have H1 : (spec_PrimeIs.l0 k a0 2) = some r := by rw [if_pos rfl] at H; exact H
    clear H
    have H := H1
    clear H1
    have H' := Aside0.mk H
    clear H
    go_enter Try.func35, Try.ntmps35
    go_wp2_with (first | ((with_reducible refine gate_callee (f := 72) rfl ?_); refine goesL_ (some 5) rfl rfl Try.func72 (by kernel_rfl) rfl #[.int .i64 a0, .int .i64 2, .int .i64 5000] rfl (by (try simp only [List.map_toArray, List.map_cons, List.map_nil]); first | done | rfl | (simp only [List.length_drop, List.length_take]; rfl)) ?_; (with_reducible refine (spec_l6In.calls a0 2 5000 true _ A2.out).mono ?_); rintro e w' ⟨rfl, ⟨nd, rfl⟩⟩; refine ⟨_, rfl, ?_⟩))
    go_loopg [3] k (fun kq v3 w' => ∃ (x3_1 : Int), v3 = .int .i64 x3_1 ∧ Aside0 (spec_PrimeIs.l0 kq a0 x3_1 = some r) ∧ Aside0 (kq ≤ k) ∧ Drawn0 w w')
    case atStart => exact ⟨(2), (by first | rfl | (simp; done) | (simp [*]; done)), H', ⟨Nat.le_refl _⟩, by repeat (first | exact Drawn0.refl _ | apply Drawn0.step)⟩
    case round =>
      clear H'
      try clear p2
      try clear c3
      obtain ⟨x3_1, rfl, HA, HK1, ⟨m1, rfl⟩⟩ := hrel
      cases gk with
      | zero => exact absurd HA.out (by simp [spec_PrimeIs.l0])
      | succ k1 =>
        have H := HA.out
        clear HA
        simp only [spec_PrimeIs.l0] at H
        by_cases c4 : (wrap64 (x3_1 * x3_1)) ≤ a0
        · rw [if_pos c4] at H
          have c4b0 : decide ((wrap64 (x3_1 * x3_1)) ≤ a0) = true := decide_eq_true c4
          clear c4
          by_cases c5 : x3_1 = 0
          · rw [if_pos c5] at H
            exact absurd H (by simp)
          · rw [if_neg c5] at H
            have c5b0 : (x3_1 == 0) = false := beq_eq_false_iff_ne.mpr c5
            have c5b1 : (x3_1 != 0) = true := bne_iff_ne.mpr c5
            by_cases c6 : (Int.tmod a0 x3_1) = 0
            · rw [if_pos c6] at H
              have c6b0 : ((Int.tmod a0 x3_1) == 0) = true := beq_iff_eq.mpr c6
              have c6b1 : ((Int.tmod a0 x3_1) != 0) = false := bne_eq_false_iff_eq.mpr c6
              clear c6
              obtain rfl := Option.some.inj H
              go_wp2
              go_ret
              exact ⟨by first | rfl | (simp; done) | (simp [*]; done), by repeat (first | exact Drawn0.refl _ | apply Drawn0.step)⟩
            · rw [if_neg c6] at H
              have c6b0 : ((Int.tmod a0 x3_1) == 0) = false := beq_eq_false_iff_ne.mpr c6
              have c6b1 : ((Int.tmod a0 x3_1) != 0) = true := bne_iff_ne.mpr c6
              have H' := Aside0.mk H
              clear H
              go_wp2
              go_roundg k1
              case measure => have := HK1.out; omega
              case rel => exact ⟨(wrap64 (x3_1 + 1)), (by first | rfl | (simp; done) | (simp [*]; done)), H', ⟨by have := HK1.out; omega⟩, by repeat (first | exact Drawn0.refl _ | apply Drawn0.step)⟩
        · rw [if_neg c4] at H
          have c4b0 : decide ((wrap64 (x3_1 * x3_1)) ≤ a0) = false := decide_eq_false c4
          clear c4
          obtain rfl := Option.some.inj H
          go_wp2
          go_ret
          exact ⟨by first | rfl | (simp; done) | (simp [*]; done), by repeat (first | exact Drawn0.refl _ | apply Drawn0.step)⟩
  · replace c3 := Bool.eq_false_iff.mpr c3
    subst c3
    have H1 : (some false) = some r := by rw [if_neg (show ¬ (false = true) by decide)] at H; exact H
    clear H
    have H := H1
    clear H1
    obtain rfl := Option.some.inj H
    go_enter Try.func35, Try.ntmps35
    go_wp2_with (first | ((with_reducible refine gate_callee (f := 72) rfl ?_); refine goesL_ (some 5) rfl rfl Try.func72 (by kernel_rfl) rfl #[.int .i64 a0, .int .i64 2, .int .i64 5000] rfl (by (try simp only [List.map_toArray, List.map_cons, List.map_nil]); first | done | rfl | (simp only [List.length_drop, List.length_take]; rfl)) ?_; (with_reducible refine (spec_l6In.calls a0 2 5000 false _ A2.out).mono ?_); rintro e w' ⟨rfl, ⟨nd, rfl⟩⟩; refine ⟨_, rfl, ?_⟩))
    go_ret
    exact ⟨by first | rfl | (simp; done) | (simp [*]; done), by repeat (first | exact Drawn0.refl _ | apply Drawn0.step)⟩

/-! ### spec_l1Mod: function 83 -/
def spec_l1Mod.f (a0 : Int) (a1 : Int) : Option (Int) := if a1 = 0 then (none) else (some (Int.tmod (wrap64 ((Int.tmod a0 a1) + a1)) a1))
set_option maxHeartbeats 8000000 in
set_option maxRecDepth 100000 in
theorem spec_l1Mod.calls (a0 : Int) (a1 : Int) (r : Int) (w : World) (h : spec_l1Mod.f a0 a1 = some r) :
    Calls Try.prog 83 #[.int .i64 a0, .int .i64 a1] w fun e w' => e = .returned (.int .i64 r) ∧ Drawn0 w w' := by
  have H : (if a1 = 0 then (none) else (some (Int.tmod (wrap64 ((Int.tmod a0 a1) + a1)) a1))) = some r := h
  clear h
  by_cases c3 : a1 = 0
  · rw [if_pos c3] at H
    exact absurd H (by simp)
  · rw [if_neg c3] at H
    have c3b0 : (a1 == 0) = false := beq_eq_false_iff_ne.mpr c3
    have c3b1 : (a1 != 0) = true := bne_iff_ne.mpr c3
    obtain rfl := Option.some.inj H
    go_enter Try.func83, Try.ntmps83
    go_wp2
    go_ret
    exact ⟨by first | rfl | (simp; done) | (simp [*]; done), by repeat (first | exact Drawn0.refl _ | apply Drawn0.step)⟩

/-! ### spec_l1Power: function 90 -/
def spec_l1Power.l0 : Nat → Int → Int → Int → Int → Option (Int)
  | 0, _, _, _, _ => none
  | k + 1, x0, x1, x2, x7 => if x1 > 0 then (if (Int.tmod x1 2) = 1 then (if x2 = 0 then (none) else (spec_l1Power.l0 k (Int.tmod (wrap64 (x0 * x0)) x2) (wrap64 (Int.tdiv x1 2)) x2 (Int.tmod (wrap64 (x7 * x0)) x2))) else (if x2 = 0 then (none) else (spec_l1Power.l0 k (Int.tmod (wrap64 (x0 * x0)) x2) (wrap64 (Int.tdiv x1 2)) x2 x7))) else (some x7)
def spec_l1Power.f (k : Nat) (a0 : Int) (a1 : Int) (a2 : Int) : Option (Int) := if a2 = 0 then (none) else ((spec_l1Mod.f a0 a2).bind fun t122 => (spec_l1Power.l0 k t122 a1 a2 ((1 : Int) % a2)))
theorem spec_l1Power.mono_l : ∀ k, (∀ y0 y1 y2 y3, LeO (spec_l1Power.l0 k y0 y1 y2 y3) (spec_l1Power.l0 (k + 1) y0 y1 y2 y3))
  | 0 => fun _ _ _ _ r h => by simp [spec_l1Power.l0] at h
  | k + 1 => by
    have ih0 := spec_l1Power.mono_l k
    · intro y0 y1 y2 y3
      unfold spec_l1Power.l0
      repeat' first
      | (with_reducible exact ih0 _ _ _ _)
      | (with_reducible exact LeO.refl _)
      | (with_reducible exact LeO.none _)
      | (with_reducible refine LeO.ite ?_ ?_)
      | (with_reducible refine LeO.bind ?_ (fun _ => ?_))
      | exact ih0 _ _ _ _
      | exact LeO.none _
      | refine LeO.ite ?_ ?_
      | refine LeO.bind ?_ (fun _ => ?_)
theorem spec_l1Power.mono : ∀ a0 a1 a2 k, LeO (spec_l1Power.f k a0 a1 a2) (spec_l1Power.f (k + 1) a0 a1 a2) := by
  intro a0 a1 a2 k
  have ih0 := spec_l1Power.mono_l k
  unfold spec_l1Power.f
  repeat' first
      | (with_reducible exact ih0 _ _ _ _)
      | (with_reducible exact LeO.refl _)
      | (with_reducible exact LeO.none _)
      | (with_reducible refine LeO.ite ?_ ?_)
      | (with_reducible refine LeO.bind ?_ (fun _ => ?_))
      | exact ih0 _ _ _ _
      | exact LeO.none _
      | refine LeO.ite ?_ ?_
      | refine LeO.bind ?_ (fun _ => ?_)
set_option maxHeartbeats 8000000 in
set_option maxRecDepth 100000 in
theorem spec_l1Power.calls (k : Nat) (a0 : Int) (a1 : Int) (a2 : Int) (r : Int) (w : World) (h : spec_l1Power.f k a0 a1 a2 = some r) :
    Calls Try.prog 90 #[.int .i64 a0, .int .i64 a1, .int .i64 a2] w fun e w' => e = .returned (.int .i64 r) ∧ Drawn0 w w' := by
  have H : (if a2 = 0 then (none) else ((spec_l1Mod.f a0 a2).bind fun t122 => (spec_l1Power.l0 k t122 a1 a2 ((1 : Int) % a2)))) = some r := h
  clear h
  by_cases c4 : a2 = 0
  · rw [if_pos c4] at H
    exact absurd H (by simp)
  · rw [if_neg c4] at H
    have c4b0 : (a2 == 0) = false := beq_eq_false_iff_ne.mpr c4
    have c4b1 : (a2 != 0) = true := bne_iff_ne.mpr c4
    replace H := Option.bind_eq_some_iff.mp H
    obtain ⟨t122, A50, H⟩ := H
    replace H : (spec_l1Power.l0 k t122 a1 a2 ((1 : Int) % a2)) = some r := H
    have A5 := Aside0.mk A50
    clear A50
    have H' := Aside0.mk H
    clear H
    go_enter Try.func90, Try.ntmps90
    go_wp2_with (first | ((with_reducible refine gate_callee (f := 83) rfl ?_); refine goesL_ (some 12) rfl rfl Try.func83 (by kernel_rfl) rfl #[.int .i64 a0, .int .i64 a2] rfl (by (try simp only [List.map_toArray, List.map_cons, List.map_nil]); first | done | rfl | (simp only [List.length_drop, List.length_take]; rfl)) ?_; (with_reducible refine (spec_l1Mod.calls a0 a2 t122 _ A5.out).mono ?_); rintro e w' ⟨rfl, ⟨nd, rfl⟩⟩; refine ⟨_, rfl, ?_⟩))
    go_loopg [0, 1, 7] k (fun kq v0 v1 v7 w' => ∃ (x0_1 : Int) (x1_1 : Int) (x7_1 : Int), v0 = .int .i64 x0_1 ∧ v1 = .int .i64 x1_1 ∧ v7 = .int .i64 x7_1 ∧ Aside0 (spec_l1Power.l0 kq x0_1 x1_1 a2 x7_1 = some r) ∧ Aside0 (kq ≤ k) ∧ Drawn0 w w')
    case atStart => exact ⟨(t122), (a1), ((1 : Int) % a2), (by first | rfl | (simp; done) | (simp [*]; done)), (by first | rfl | (simp; done) | (simp [*]; done)), (by first | rfl | (simp; done) | (simp [*]; done)), H', ⟨Nat.le_refl _⟩, by repeat (first | exact Drawn0.refl _ | apply Drawn0.step)⟩
    case round =>
      clear H'
      try clear p2
      try clear c4
      try clear c4b0
      try clear c4b1
      obtain ⟨x0_1, x1_1, x7_1, rfl, rfl, rfl, HA, HK1, ⟨m1, rfl⟩⟩ := hrel
      cases gk with
      | zero => exact absurd HA.out (by simp [spec_l1Power.l0])
      | succ k1 =>
        have H := HA.out
        clear HA
        simp only [spec_l1Power.l0] at H
        by_cases c6 : x1_1 > 0
        · rw [if_pos c6] at H
          have c6b0 : decide (0 < x1_1) = true := decide_eq_true c6
          clear c6
          by_cases c7 : (Int.tmod x1_1 2) = 1
          · rw [if_pos c7] at H
            have c7b0 : ((Int.tmod x1_1 2) == 1) = true := beq_iff_eq.mpr c7
            have c7b1 : ((Int.tmod x1_1 2) != 1) = false := bne_eq_false_iff_eq.mpr c7
            clear c7
            by_cases c8 : a2 = 0
            · rw [if_pos c8] at H
              exact absurd H (by simp)
            · rw [if_neg c8] at H
              have c8b0 : (a2 == 0) = false := beq_eq_false_iff_ne.mpr c8
              have c8b1 : (a2 != 0) = true := bne_iff_ne.mpr c8
              have H' := Aside0.mk H
              clear H
              go_wp2
              go_roundg k1
              case measure => have := HK1.out; omega
              case rel => exact ⟨(Int.tmod (wrap64 (x0_1 * x0_1)) a2), (wrap64 (Int.tdiv x1_1 2)), (Int.tmod (wrap64 (x7_1 * x0_1)) a2), (by first | rfl | (simp; done) | (simp [*]; done)), (by first | rfl | (simp; done) | (simp [*]; done)), (by first | rfl | (simp; done) | (simp [*]; done)), H', ⟨by have := HK1.out; omega⟩, by repeat (first | exact Drawn0.refl _ | apply Drawn0.step)⟩
          · rw [if_neg c7] at H
            have c7b0 : ((Int.tmod x1_1 2) == 1) = false := beq_eq_false_iff_ne.mpr c7
            have c7b1 : ((Int.tmod x1_1 2) != 1) = true := bne_iff_ne.mpr c7
            by_cases c9 : a2 = 0
            · rw [if_pos c9] at H
              exact absurd H (by simp)
            · rw [if_neg c9] at H
              have c9b0 : (a2 == 0) = false := beq_eq_false_iff_ne.mpr c9
              have c9b1 : (a2 != 0) = true := bne_iff_ne.mpr c9
              have H' := Aside0.mk H
              clear H
              go_wp2
              go_roundg k1
              case measure => have := HK1.out; omega
              case rel => exact ⟨(Int.tmod (wrap64 (x0_1 * x0_1)) a2), (wrap64 (Int.tdiv x1_1 2)), (x7_1), (by first | rfl | (simp; done) | (simp [*]; done)), (by first | rfl | (simp; done) | (simp [*]; done)), (by first | rfl | (simp; done) | (simp [*]; done)), H', ⟨by have := HK1.out; omega⟩, by repeat (first | exact Drawn0.refl _ | apply Drawn0.step)⟩
        · rw [if_neg c6] at H
          have c6b0 : decide (0 < x1_1) = false := decide_eq_false c6
          clear c6
          obtain rfl := Option.some.inj H
          go_wp2
          go_ret
          exact ⟨by first | rfl | (simp; done) | (simp [*]; done), by repeat (first | exact Drawn0.refl _ | apply Drawn0.step)⟩

/-! ### spec_l1Residue: function 77 -/
def spec_l1Residue.f (k : Nat) (a0 : Int) (a1 : Int) : Option (Int) := (spec_l1Power.f k a0 (wrap64 (Int.tdiv (wrap64 (a1 - 1)) 2)) a1).bind fun t123 => (if t123 = (wrap64 (a1 - 1)) then (some (-1)) else (some t123))
theorem spec_l1Residue.mono : ∀ a0 a1 k, LeO (spec_l1Residue.f k a0 a1) (spec_l1Residue.f (k + 1) a0 a1) := by
  intro a0 a1 k
  unfold spec_l1Residue.f
  repeat' first
      | (with_reducible exact spec_l1Power.mono _ _ _ _)
      | (with_reducible exact LeO.refl _)
      | (with_reducible exact LeO.none _)
      | (with_reducible refine LeO.ite ?_ ?_)
      | (with_reducible refine LeO.bind ?_ (fun _ => ?_))
      | exact spec_l1Power.mono _ _ _ _
      | exact LeO.none _
      | refine LeO.ite ?_ ?_
      | refine LeO.bind ?_ (fun _ => ?_)
set_option maxHeartbeats 8000000 in
set_option maxRecDepth 100000 in
theorem spec_l1Residue.calls (k : Nat) (a0 : Int) (a1 : Int) (r : Int) (w : World) (h : spec_l1Residue.f k a0 a1 = some r) :
    Calls Try.prog 77 #[.int .i64 a0, .int .i64 a1] w fun e w' => e = .returned (.int .i64 r) ∧ Drawn0 w w' := by
  have H : ((spec_l1Power.f k a0 (wrap64 (Int.tdiv (wrap64 (a1 - 1)) 2)) a1).bind fun t123 => (if t123 = (wrap64 (a1 - 1)) then (some (-1)) else (some t123))) = some r := h
  clear h
  replace H := Option.bind_eq_some_iff.mp H
  obtain ⟨t123, A30, H⟩ := H
  replace H : (if t123 = (wrap64 (a1 - 1)) then (some (-1)) else (some t123)) = some r := H
  have A3 := Aside0.mk A30
  clear A30
  by_cases c4 : t123 = (wrap64 (a1 - 1))
  · rw [if_pos c4] at H
    have c4b0 : (t123 == (wrap64 (a1 - 1))) = true := beq_iff_eq.mpr c4
    have c4b1 : (t123 != (wrap64 (a1 - 1))) = false := bne_eq_false_iff_eq.mpr c4
    clear c4
    obtain rfl := Option.some.inj H
    go_enter Try.func77, Try.ntmps77
    go_wp2_with (first | ((with_reducible refine gate_callee (f := 90) rfl ?_); refine goesL_ (some 11) rfl rfl Try.func90 (by kernel_rfl) rfl #[.int .i64 a0, .int .i64 (wrap64 (Int.tdiv (wrap64 (a1 - 1)) 2)), .int .i64 a1] rfl (by (try simp only [List.map_toArray, List.map_cons, List.map_nil]); first | done | rfl | (simp only [List.length_drop, List.length_take]; rfl)) ?_; (with_reducible refine (spec_l1Power.calls k a0 (wrap64 (Int.tdiv (wrap64 (a1 - 1)) 2)) a1 t123 _ A3.out).mono ?_); rintro e w' ⟨rfl, ⟨nd, rfl⟩⟩; refine ⟨_, rfl, ?_⟩))
    go_ret
    exact ⟨by first | rfl | (simp; done) | (simp [*]; done), by repeat (first | exact Drawn0.refl _ | apply Drawn0.step)⟩
  · rw [if_neg c4] at H
    have c4b0 : (t123 == (wrap64 (a1 - 1))) = false := beq_eq_false_iff_ne.mpr c4
    have c4b1 : (t123 != (wrap64 (a1 - 1))) = true := bne_iff_ne.mpr c4
    obtain rfl := Option.some.inj H
    go_enter Try.func77, Try.ntmps77
    go_wp2_with (first | ((with_reducible refine gate_callee (f := 90) rfl ?_); refine goesL_ (some 11) rfl rfl Try.func90 (by kernel_rfl) rfl #[.int .i64 a0, .int .i64 (wrap64 (Int.tdiv (wrap64 (a1 - 1)) 2)), .int .i64 a1] rfl (by (try simp only [List.map_toArray, List.map_cons, List.map_nil]); first | done | rfl | (simp only [List.length_drop, List.length_take]; rfl)) ?_; (with_reducible refine (spec_l1Power.calls k a0 (wrap64 (Int.tdiv (wrap64 (a1 - 1)) 2)) a1 t123 _ A3.out).mono ?_); rintro e w' ⟨rfl, ⟨nd, rfl⟩⟩; refine ⟨_, rfl, ?_⟩))
    go_ret
    exact ⟨by first | rfl | (simp; done) | (simp [*]; done), by repeat (first | exact Drawn0.refl _ | apply Drawn0.step)⟩

/-! ### spec_l1None: function 62 -/
def spec_l1None.l0 : Nat → Int → Int → Option (Int)
  | 0, _, _ => none
  | k + 1, x0, x3 => (spec_l1Residue.f k x3 x0).bind fun t124 => (if t124 = (-1) then (some x3) else (spec_l1None.l0 k x0 (wrap64 (x3 + 1))))
def spec_l1None.f (k : Nat) (a0 : Int) : Option (Int) := spec_l1None.l0 k a0 2
theorem spec_l1None.mono_l : ∀ k, (∀ y0 y1, LeO (spec_l1None.l0 k y0 y1) (spec_l1None.l0 (k + 1) y0 y1))
  | 0 => fun _ _ r h => by simp [spec_l1None.l0] at h
  | k + 1 => by
    have ih0 := spec_l1None.mono_l k
    · intro y0 y1
      unfold spec_l1None.l0
      repeat' first
      | (with_reducible exact ih0 _ _)
      | (with_reducible exact spec_l1Residue.mono _ _ _)
      | (with_reducible exact LeO.refl _)
      | (with_reducible exact LeO.none _)
      | (with_reducible refine LeO.ite ?_ ?_)
      | (with_reducible refine LeO.bind ?_ (fun _ => ?_))
      | exact ih0 _ _
      | exact spec_l1Residue.mono _ _ _
      | exact LeO.none _
      | refine LeO.ite ?_ ?_
      | refine LeO.bind ?_ (fun _ => ?_)
theorem spec_l1None.mono : ∀ a0 k, LeO (spec_l1None.f k a0) (spec_l1None.f (k + 1) a0) := by
  intro a0 k
  have ih0 := spec_l1None.mono_l k
  unfold spec_l1None.f
  repeat' first
      | (with_reducible exact ih0 _ _)
      | (with_reducible exact spec_l1Residue.mono _ _ _)
      | (with_reducible exact LeO.refl _)
      | (with_reducible exact LeO.none _)
      | (with_reducible refine LeO.ite ?_ ?_)
      | (with_reducible refine LeO.bind ?_ (fun _ => ?_))
      | exact ih0 _ _
      | exact spec_l1Residue.mono _ _ _
      | exact LeO.none _
      | refine LeO.ite ?_ ?_
      | refine LeO.bind ?_ (fun _ => ?_)
set_option maxHeartbeats 8000000 in
set_option maxRecDepth 100000 in
theorem spec_l1None.calls (k : Nat) (a0 : Int) (r : Int) (w : World) (h : spec_l1None.f k a0 = some r) :
    Calls Try.prog 62 #[.int .i64 a0] w fun e w' => e = .returned (.int .i64 r) ∧ Drawn0 w w' := by
  have H : (spec_l1None.l0 k a0 2) = some r := h
  clear h
  have H' := Aside0.mk H
  clear H
  go_enter Try.func62, Try.ntmps62
  go_wp2
  go_loopg [3] k (fun kq v3 w' => ∃ (x3_1 : Int), v3 = .int .i64 x3_1 ∧ Aside0 (spec_l1None.l0 kq a0 x3_1 = some r) ∧ Aside0 (kq ≤ k) ∧ Drawn0 w w')
  case atStart => exact ⟨(2), (by first | rfl | (simp; done) | (simp [*]; done)), H', ⟨Nat.le_refl _⟩, by repeat (first | exact Drawn0.refl _ | apply Drawn0.step)⟩
  case round =>
    clear H'
    obtain ⟨x3_1, rfl, HA, HK1, ⟨m1, rfl⟩⟩ := hrel
    cases gk with
    | zero => exact absurd HA.out (by simp [spec_l1None.l0])
    | succ k1 =>
      have H := HA.out
      clear HA
      simp only [spec_l1None.l0] at H
      replace H := Option.bind_eq_some_iff.mp H
      obtain ⟨t124, A20, H⟩ := H
      replace H : (if t124 = (-1) then (some x3_1) else (spec_l1None.l0 k1 a0 (wrap64 (x3_1 + 1)))) = some r := H
      have A2 := Aside0.mk A20
      clear A20
      by_cases c3 : t124 = (-1)
      · rw [if_pos c3] at H
        have c3b0 : (t124 == (-1)) = true := beq_iff_eq.mpr c3
        have c3b1 : (t124 != (-1)) = false := bne_eq_false_iff_eq.mpr c3
        clear c3
        obtain rfl := Option.some.inj H
        go_wp2_with (first | ((with_reducible refine gate_callee (f := 77) rfl ?_); refine goesL_ (some 6) rfl rfl Try.func77 (by kernel_rfl) rfl #[.int .i64 x3_1, .int .i64 a0] rfl (by (try simp only [List.map_toArray, List.map_cons, List.map_nil]); first | done | rfl | (simp only [List.length_drop, List.length_take]; rfl)) ?_; (with_reducible refine (spec_l1Residue.calls k1 x3_1 a0 t124 _ A2.out).mono ?_); rintro e w' ⟨rfl, ⟨nd, rfl⟩⟩; refine ⟨_, rfl, ?_⟩))
        go_ret
        exact ⟨by first | rfl | (simp; done) | (simp [*]; done), by repeat (first | exact Drawn0.refl _ | apply Drawn0.step)⟩
      · rw [if_neg c3] at H
        have c3b0 : (t124 == (-1)) = false := beq_eq_false_iff_ne.mpr c3
        have c3b1 : (t124 != (-1)) = true := bne_iff_ne.mpr c3
        have H' := Aside0.mk H
        clear H
        go_wp2_with (first | ((with_reducible refine gate_callee (f := 77) rfl ?_); refine goesL_ (some 6) rfl rfl Try.func77 (by kernel_rfl) rfl #[.int .i64 x3_1, .int .i64 a0] rfl (by (try simp only [List.map_toArray, List.map_cons, List.map_nil]); first | done | rfl | (simp only [List.length_drop, List.length_take]; rfl)) ?_; (with_reducible refine (spec_l1Residue.calls k1 x3_1 a0 t124 _ A2.out).mono ?_); rintro e w' ⟨rfl, ⟨nd, rfl⟩⟩; refine ⟨_, rfl, ?_⟩))
        go_roundg k1
        case measure => have := HK1.out; omega
        case rel => exact ⟨(wrap64 (x3_1 + 1)), (by first | rfl | (simp; done) | (simp [*]; done)), H', ⟨by have := HK1.out; omega⟩, by repeat (first | exact Drawn0.refl _ | apply Drawn0.step)⟩

/-! ### spec_NonResidue: function 23 -/
def spec_NonResidue.f (k : Nat) (a0 : Int) : Option (Int × Bool) := (spec_PrimeIs.f k a0).bind fun t125 => (if t125 = true then (if a0 = 2 then (some (0, false)) else ((spec_l1None.f k a0).bind fun t126 => (some (t126, true)))) else (some (0, false)))
theorem spec_NonResidue.mono : ∀ a0 k, LeO (spec_NonResidue.f k a0) (spec_NonResidue.f (k + 1) a0) := by
  intro a0 k
  unfold spec_NonResidue.f
  repeat' first
      | (with_reducible exact spec_PrimeIs.mono _ _)
      | (with_reducible exact spec_l1None.mono _ _)
      | (with_reducible exact LeO.refl _)
      | (with_reducible exact LeO.none _)
      | (with_reducible refine LeO.ite ?_ ?_)
      | (with_reducible refine LeO.bind ?_ (fun _ => ?_))
      | exact spec_PrimeIs.mono _ _
      | exact spec_l1None.mono _ _
      | exact LeO.none _
      | refine LeO.ite ?_ ?_
      | refine LeO.bind ?_ (fun _ => ?_)
set_option maxHeartbeats 8000000 in
set_option maxRecDepth 100000 in
theorem spec_NonResidue.calls (k : Nat) (a0 : Int) (r1 : Int) (r2 : Bool) (w : World) (h : spec_NonResidue.f k a0 = some (r1, r2)) :
    Calls Try.prog 23 #[.int .i64 a0] w fun e w' => e = .returned (.tuple #[.int .i64 r1, .bool r2]) ∧ Drawn0 w w' := by
  have H : ((spec_PrimeIs.f k a0).bind fun t125 => (if t125 = true then (if a0 = 2 then (some (0, false)) else ((spec_l1None.f k a0).bind fun t126 => (some (t126, true)))) else (some (0, false)))) = some (r1, r2) := h
  clear h
  replace H := Option.bind_eq_some_iff.mp H
  obtain ⟨t125, A20, H⟩ := H
  replace H : (if t125 = true then (if a0 = 2 then (some (0, false)) else ((spec_l1None.f k a0).bind fun t126 => (some (t126, true)))) else (some (0, false))) = some (r1, r2) := H
  have A2 := Aside0.mk A20
  clear A20
  by_cases c3 : t125 = true
  · subst c3
    have H1 : (if a0 = 2 then (some (0, false)) else ((spec_l1None.f k a0).bind fun t126 => (some (t126, true)))) = some (r1, r2) := by rw [if_pos rfl] at H; exact H
    clear H
    have H := H1
    clear H1
    by_cases c4 : a0 = 2
    · rw [if_pos c4] at H
      have c4b0 : (a0 == 2) = true := beq_iff_eq.mpr c4
      have c4b1 : (a0 != 2) = false := bne_eq_false_iff_eq.mpr c4
      clear c4
      simp only [Option.some.injEq, Prod.mk.injEq] at H
      obtain ⟨rfl, rfl⟩ := H
      go_enter Try.func23, Try.ntmps23
      go_wp2_with (first | ((with_reducible refine gate_callee (f := 35) rfl ?_); refine goesL_ (some 5) rfl rfl Try.func35 (by kernel_rfl) rfl #[.int .i64 a0] rfl (by (try simp only [List.map_toArray, List.map_cons, List.map_nil]); first | done | rfl | (simp only [List.length_drop, List.length_take]; rfl)) ?_; (with_reducible refine (spec_PrimeIs.calls k a0 true _ A2.out).mono ?_); rintro e w' ⟨rfl, ⟨nd, rfl⟩⟩; refine ⟨_, rfl, ?_⟩))
      go_ret2
      exact ⟨by first | rfl | (simp; done) | (simp [*]; done), by repeat (first | exact Drawn0.refl _ | apply Drawn0.step)⟩
    · rw [if_neg c4] at H
      have c4b0 : (a0 == 2) = false := beq_eq_false_iff_ne.mpr c4
      have c4b1 : (a0 != 2) = true := bne_iff_ne.mpr c4
      replace H := Option.bind_eq_some_iff.mp H
      obtain ⟨t126, A50, H⟩ := H
      replace H : (some (t126, true)) = some (r1, r2) := H
      have A5 := Aside0.mk A50
      clear A50
      simp only [Option.some.injEq, Prod.mk.injEq] at H
      obtain ⟨rfl, rfl⟩ := H
      go_enter Try.func23, Try.ntmps23
      go_wp2_with (first | ((with_reducible refine gate_callee (f := 35) rfl ?_); refine goesL_ (some 5) rfl rfl Try.func35 (by kernel_rfl) rfl #[.int .i64 a0] rfl (by (try simp only [List.map_toArray, List.map_cons, List.map_nil]); first | done | rfl | (simp only [List.length_drop, List.length_take]; rfl)) ?_; (with_reducible refine (spec_PrimeIs.calls k a0 true _ A2.out).mono ?_); rintro e w' ⟨rfl, ⟨nd, rfl⟩⟩; refine ⟨_, rfl, ?_⟩) | ((with_reducible refine gate_callee (f := 62) rfl ?_); refine goesL_ (some 12) rfl rfl Try.func62 (by kernel_rfl) rfl #[.int .i64 a0] rfl (by (try simp only [List.map_toArray, List.map_cons, List.map_nil]); first | done | rfl | (simp only [List.length_drop, List.length_take]; rfl)) ?_; (with_reducible refine (spec_l1None.calls k a0 t126 _ A5.out).mono ?_); rintro e w' ⟨rfl, ⟨nd, rfl⟩⟩; refine ⟨_, rfl, ?_⟩))
      go_ret2
      exact ⟨by first | rfl | (simp; done) | (simp [*]; done), by repeat (first | exact Drawn0.refl _ | apply Drawn0.step)⟩
  · replace c3 := Bool.eq_false_iff.mpr c3
    subst c3
    have H1 : (some (0, false)) = some (r1, r2) := by rw [if_neg (show ¬ (false = true) by decide)] at H; exact H
    clear H
    have H := H1
    clear H1
    simp only [Option.some.injEq, Prod.mk.injEq] at H
    obtain ⟨rfl, rfl⟩ := H
    go_enter Try.func23, Try.ntmps23
    go_wp2_with (first | ((with_reducible refine gate_callee (f := 35) rfl ?_); refine goesL_ (some 5) rfl rfl Try.func35 (by kernel_rfl) rfl #[.int .i64 a0] rfl (by (try simp only [List.map_toArray, List.map_cons, List.map_nil]); first | done | rfl | (simp only [List.length_drop, List.length_take]; rfl)) ?_; (with_reducible refine (spec_PrimeIs.calls k a0 false _ A2.out).mono ?_); rintro e w' ⟨rfl, ⟨nd, rfl⟩⟩; refine ⟨_, rfl, ?_⟩))
    go_ret2
    exact ⟨by first | rfl | (simp; done) | (simp [*]; done), by repeat (first | exact Drawn0.refl _ | apply Drawn0.step)⟩

/-! ### impl_isNumber: function 56 -/
def impl_isNumber.f (a0 : Int) : Option (Bool) := if a0 ≥ (-5000) then (some (decide (a0 ≤ 5000))) else (some false)
set_option maxHeartbeats 8000000 in
set_option maxRecDepth 100000 in
theorem impl_isNumber.calls (a0 : Int) (r : Bool) (w : World) (h : impl_isNumber.f a0 = some r) :
    Calls Try.prog 56 #[.int .i64 a0] w fun e w' => e = .returned (.bool r) ∧ Drawn0 w w' := by
  have H : (if a0 ≥ (-5000) then (some (decide (a0 ≤ 5000))) else (some false)) = some r := h
  clear h
  by_cases c2 : a0 ≥ (-5000)
  · rw [if_pos c2] at H
    have c2b0 : decide ((-5000) ≤ a0) = true := decide_eq_true c2
    clear c2
    obtain rfl := Option.some.inj H
    go_enter Try.func56, Try.ntmps56
    go_wp2
    go_ret
    exact ⟨by first | rfl | (simp; done) | (simp [*]; done), by repeat (first | exact Drawn0.refl _ | apply Drawn0.step)⟩
  · rw [if_neg c2] at H
    have c2b0 : decide ((-5000) ≤ a0) = false := decide_eq_false c2
    clear c2
    obtain rfl := Option.some.inj H
    go_enter Try.func56, Try.ntmps56
    go_wp2
    go_ret
    exact ⟨by first | rfl | (simp; done) | (simp [*]; done), by repeat (first | exact Drawn0.refl _ | apply Drawn0.step)⟩

/-! ### impl_ResidueIs: function 24 -/
def impl_ResidueIs.f (k : Nat) (a0 : Int) (a1 : Int) : Option (Int) := (impl_isNumber.f a0).bind fun t127 => (if t127 = true then ((impl_PrimeIs.f k a1).bind fun t128 => (if t128 = true then (if a1 = 2 then (some (-2)) else ((impl_residue.f k a0 a1).bind fun t129 => (some t129))) else (some (-2)))) else (some (-2)))
theorem impl_ResidueIs.mono : ∀ a0 a1 k, LeO (impl_ResidueIs.f k a0 a1) (impl_ResidueIs.f (k + 1) a0 a1) := by
  intro a0 a1 k
  unfold impl_ResidueIs.f
  repeat' first
      | (with_reducible exact impl_PrimeIs.mono _ _)
      | (with_reducible exact impl_residue.mono _ _ _)
      | (with_reducible exact LeO.refl _)
      | (with_reducible exact LeO.none _)
      | (with_reducible refine LeO.ite ?_ ?_)
      | (with_reducible refine LeO.bind ?_ (fun _ => ?_))
      | exact impl_PrimeIs.mono _ _
      | exact impl_residue.mono _ _ _
      | exact LeO.none _
      | refine LeO.ite ?_ ?_
      | refine LeO.bind ?_ (fun _ => ?_)
set_option maxHeartbeats 8000000 in
set_option maxRecDepth 100000 in
theorem impl_ResidueIs.calls (k : Nat) (a0 : Int) (a1 : Int) (r : Int) (w : World) (h : impl_ResidueIs.f k a0 a1 = some r) :
    Calls Try.prog 24 #[.int .i64 a0, .int .i64 a1] w fun e w' => e = .returned (.int .i64 r) ∧ Drawn0 w w' := by
  have H : ((impl_isNumber.f a0).bind fun t127 => (if t127 = true then ((impl_PrimeIs.f k a1).bind fun t128 => (if t128 = true then (if a1 = 2 then (some (-2)) else ((impl_residue.f k a0 a1).bind fun t129 => (some t129))) else (some (-2)))) else (some (-2)))) = some r := h
  clear h
  replace H := Option.bind_eq_some_iff.mp H
  obtain ⟨t127, A30, H⟩ := H
  replace H : (if t127 = true then ((impl_PrimeIs.f k a1).bind fun t128 => (if t128 = true then (if a1 = 2 then (some (-2)) else ((impl_residue.f k a0 a1).bind fun t129 => (some t129))) else (some (-2)))) else (some (-2))) = some r := H
  have A3 := Aside0.mk A30
  clear A30
  by_cases c4 : t127 = true
  · subst c4
    have H1 : ((impl_PrimeIs.f k a1).bind fun t128 => (if t128 = true then (if a1 = 2 then (some (-2)) else ((impl_residue.f k a0 a1).bind fun t129 => (some t129))) else (some (-2)))) = some r := by rw [if_pos rfl] at H; exact H
    clear H
    have H := H1
    clear H1
    replace H := Option.bind_eq_some_iff.mp H
    obtain ⟨t128, A50, H⟩ := H
    replace H : (if t128 = true then (if a1 = 2 then (some (-2)) else ((impl_residue.f k a0 a1).bind fun t129 => (some t129))) else (some (-2))) = some r := H
    have A5 := Aside0.mk A50
    clear A50
    by_cases c6 : t128 = true
    · subst c6
      have H1 : (if a1 = 2 then (some (-2)) else ((impl_residue.f k a0 a1).bind fun t129 => (some t129))) = some r := by rw [if_pos rfl] at H; exact H
      clear H
      have H := H1
      clear H1
      by_cases c7 : a1 = 2
      · rw [if_pos c7] at H
        have c7b0 : (a1 == 2) = true := beq_iff_eq.mpr c7
        have c7b1 : (a1 != 2) = false := bne_eq_false_iff_eq.mpr c7
        clear c7
        obtain rfl := Option.some.inj H
        go_enter Try.func24, Try.ntmps24
        go_wp2_with (first | ((with_reducible refine gate_callee (f := 56) rfl ?_); refine goesL_ (some 6) rfl rfl Try.func56 (by kernel_rfl) rfl #[.int .i64 a0] rfl (by (try simp only [List.map_toArray, List.map_cons, List.map_nil]); first | done | rfl | (simp only [List.length_drop, List.length_take]; rfl)) ?_; (with_reducible refine (impl_isNumber.calls a0 true _ A3.out).mono ?_); rintro e w' ⟨rfl, ⟨nd, rfl⟩⟩; refine ⟨_, rfl, ?_⟩) | (go_at_call 25; (with_reducible refine (impl_PrimeIs.calls k a1 true _ A5.out).mono ?_); rintro e w' ⟨rfl, ⟨nd, rfl⟩⟩))
        go_ret
        exact ⟨by first | rfl | (simp; done) | (simp [*]; done), by repeat (first | exact Drawn0.refl _ | apply Drawn0.step)⟩
      · rw [if_neg c7] at H
        have c7b0 : (a1 == 2) = false := beq_eq_false_iff_ne.mpr c7
        have c7b1 : (a1 != 2) = true := bne_iff_ne.mpr c7
        replace H := Option.bind_eq_some_iff.mp H
        obtain ⟨t129, A80, H⟩ := H
        replace H : (some t129) = some r := H
        have A8 := Aside0.mk A80
        clear A80
        obtain rfl := Option.some.inj H
        go_enter Try.func24, Try.ntmps24
        go_wp2_with (first | ((with_reducible refine gate_callee (f := 56) rfl ?_); refine goesL_ (some 6) rfl rfl Try.func56 (by kernel_rfl) rfl #[.int .i64 a0] rfl (by (try simp only [List.map_toArray, List.map_cons, List.map_nil]); first | done | rfl | (simp only [List.length_drop, List.length_take]; rfl)) ?_; (with_reducible refine (impl_isNumber.calls a0 true _ A3.out).mono ?_); rintro e w' ⟨rfl, ⟨nd, rfl⟩⟩; refine ⟨_, rfl, ?_⟩) | (go_at_call 25; (with_reducible refine (impl_PrimeIs.calls k a1 true _ A5.out).mono ?_); rintro e w' ⟨rfl, ⟨nd, rfl⟩⟩) | ((with_reducible refine gate_callee (f := 63) rfl ?_); refine goesL_ (some 19) rfl rfl Try.func63 (by kernel_rfl) rfl #[.int .i64 a0, .int .i64 a1] rfl (by (try simp only [List.map_toArray, List.map_cons, List.map_nil]); first | done | rfl | (simp only [List.length_drop, List.length_take]; rfl)) ?_; (with_reducible refine (impl_residue.calls k a0 a1 t129 _ A8.out).mono ?_); rintro e w' ⟨rfl, ⟨nd, rfl⟩⟩; refine ⟨_, rfl, ?_⟩))
        go_ret
        exact ⟨by first | rfl | (simp; done) | (simp [*]; done), by repeat (first | exact Drawn0.refl _ | apply Drawn0.step)⟩
    · replace c6 := Bool.eq_false_iff.mpr c6
      subst c6
      have H1 : (some (-2)) = some r := by rw [if_neg (show ¬ (false = true) by decide)] at H; exact H
      clear H
      have H := H1
      clear H1
      obtain rfl := Option.some.inj H
      go_enter Try.func24, Try.ntmps24
      go_wp2_with (first | ((with_reducible refine gate_callee (f := 56) rfl ?_); refine goesL_ (some 6) rfl rfl Try.func56 (by kernel_rfl) rfl #[.int .i64 a0] rfl (by (try simp only [List.map_toArray, List.map_cons, List.map_nil]); first | done | rfl | (simp only [List.length_drop, List.length_take]; rfl)) ?_; (with_reducible refine (impl_isNumber.calls a0 true _ A3.out).mono ?_); rintro e w' ⟨rfl, ⟨nd, rfl⟩⟩; refine ⟨_, rfl, ?_⟩) | (go_at_call 25; (with_reducible refine (impl_PrimeIs.calls k a1 false _ A5.out).mono ?_); rintro e w' ⟨rfl, ⟨nd, rfl⟩⟩))
      go_ret
      exact ⟨by first | rfl | (simp; done) | (simp [*]; done), by repeat (first | exact Drawn0.refl _ | apply Drawn0.step)⟩
  · replace c4 := Bool.eq_false_iff.mpr c4
    subst c4
    have H1 : (some (-2)) = some r := by rw [if_neg (show ¬ (false = true) by decide)] at H; exact H
    clear H
    have H := H1
    clear H1
    obtain rfl := Option.some.inj H
    go_enter Try.func24, Try.ntmps24
    go_wp2_with (first | ((with_reducible refine gate_callee (f := 56) rfl ?_); refine goesL_ (some 6) rfl rfl Try.func56 (by kernel_rfl) rfl #[.int .i64 a0] rfl (by (try simp only [List.map_toArray, List.map_cons, List.map_nil]); first | done | rfl | (simp only [List.length_drop, List.length_take]; rfl)) ?_; (with_reducible refine (impl_isNumber.calls a0 false _ A3.out).mono ?_); rintro e w' ⟨rfl, ⟨nd, rfl⟩⟩; refine ⟨_, rfl, ?_⟩))
    go_ret
    exact ⟨by first | rfl | (simp; done) | (simp [*]; done), by repeat (first | exact Drawn0.refl _ | apply Drawn0.step)⟩

/-! ### laws_FnNonResidue: function 5 -/
mutual
def laws_FnNonResidue.j0 : Nat → Int → Int → Bool → Int → Bool → Bool → Option (Bool)
  | 0, _, _, _, _, _, _ => none
  | k + 1, x3, x4, x5, x6, x7, x35 => if x35 = true then (if (x5 == x7) = true then (some (x4 == x6)) else (some false)) else (laws_FnNonResidue.l0 k x3 x4 1)
def laws_FnNonResidue.l0 : Nat → Int → Int → Int → Option (Bool)
  | 0, _, _, _ => none
  | k + 1, x3, x4, x8 => if x8 < x4 then ((impl_ResidueIs.f k x8 x3).bind fun t135 => (if t135 = 1 then (laws_FnNonResidue.l0 k x3 x4 (wrap64 (x8 + 1))) else (some false))) else ((impl_ResidueIs.f k x4 x3).bind fun t136 => (if t136 = (-1) then ((impl_PrimeIs.f k x4).bind fun t137 => (some t137)) else (some false)))
end
def laws_FnNonResidue.f (k : Nat) (l0 : List Int) : Option (Bool) := if (l0.length : Int) > 1048576 then (some true) else ((spec_DrawNonResidue.f k l0).bind fun t130 => ((impl_NonResidue.f k t130).bind fun bt131 => ((spec_NonResidue.f k t130).bind fun bt133 => (if (bt131.2 != bt133.2) = true then (laws_FnNonResidue.j0 k t130 bt131.1 bt131.2 bt133.1 bt133.2 true) else (if bt131.1 = bt133.1 then (laws_FnNonResidue.j0 k t130 bt131.1 bt131.2 bt133.1 bt133.2 (!bt131.2)) else (laws_FnNonResidue.j0 k t130 bt131.1 bt131.2 bt133.1 bt133.2 true))))))
theorem laws_FnNonResidue.mono_l : ∀ k, (∀ y0 y1 y2 y3 y4 y5, LeO (laws_FnNonResidue.j0 k y0 y1 y2 y3 y4 y5) (laws_FnNonResidue.j0 (k + 1) y0 y1 y2 y3 y4 y5)) ∧ (∀ y0 y1 y2, LeO (laws_FnNonResidue.l0 k y0 y1 y2) (laws_FnNonResidue.l0 (k + 1) y0 y1 y2))
  | 0 => ⟨fun _ _ _ _ _ _ r h => by simp [laws_FnNonResidue.j0] at h, fun _ _ _ r h => by simp [laws_FnNonResidue.l0] at h⟩
  | k + 1 => by
    obtain ⟨ih0, ih1⟩ := laws_FnNonResidue.mono_l k
    refine ⟨?_, ?_⟩
    · intro y0 y1 y2 y3 y4 y5
      unfold laws_FnNonResidue.j0
      repeat' first
      | (with_reducible exact ih0 _ _ _ _ _ _)
      | (with_reducible exact ih1 _ _ _)
      | (with_reducible exact impl_NonResidue.mono _ _)
      | (with_reducible exact impl_PrimeIs.mono _ _)
      | (with_reducible exact impl_ResidueIs.mono _ _ _)
      | (with_reducible exact spec_DrawNonResidue.mono _ _)
      | (with_reducible exact spec_NonResidue.mono _ _)
      | (with_reducible exact LeO.refl _)
      | (with_reducible exact LeO.none _)
      | (with_reducible refine LeO.ite ?_ ?_)
      | (with_reducible refine LeO.bind ?_ (fun _ => ?_))
      | exact ih0 _ _ _ _ _ _
      | exact ih1 _ _ _
      | exact impl_NonResidue.mono _ _
      | exact impl_PrimeIs.mono _ _
      | exact impl_ResidueIs.mono _ _ _
      | exact spec_DrawNonResidue.mono _ _
      | exact spec_NonResidue.mono _ _
      | exact LeO.none _
      | refine LeO.ite ?_ ?_
      | refine LeO.bind ?_ (fun _ => ?_)
    · intro y0 y1 y2
      unfold laws_FnNonResidue.l0
      repeat' first
      | (with_reducible exact ih0 _ _ _ _ _ _)
      | (with_reducible exact ih1 _ _ _)
      | (with_reducible exact impl_NonResidue.mono _ _)
      | (with_reducible exact impl_PrimeIs.mono _ _)
      | (with_reducible exact impl_ResidueIs.mono _ _ _)
      | (with_reducible exact spec_DrawNonResidue.mono _ _)
      | (with_reducible exact spec_NonResidue.mono _ _)
      | (with_reducible exact LeO.refl _)
      | (with_reducible exact LeO.none _)
      | (with_reducible refine LeO.ite ?_ ?_)
      | (with_reducible refine LeO.bind ?_ (fun _ => ?_))
      | exact ih0 _ _ _ _ _ _
      | exact ih1 _ _ _
      | exact impl_NonResidue.mono _ _
      | exact impl_PrimeIs.mono _ _
      | exact impl_ResidueIs.mono _ _ _
      | exact spec_DrawNonResidue.mono _ _
      | exact spec_NonResidue.mono _ _
      | exact LeO.none _
      | refine LeO.ite ?_ ?_
      | refine LeO.bind ?_ (fun _ => ?_)
theorem laws_FnNonResidue.mono : ∀ a0 k, LeO (laws_FnNonResidue.f k a0) (laws_FnNonResidue.f (k + 1) a0) := by
  intro a0 k
  obtain ⟨ih0, ih1⟩ := laws_FnNonResidue.mono_l k
  unfold laws_FnNonResidue.f
  repeat' first
      | (with_reducible exact ih0 _ _ _ _ _ _)
      | (with_reducible exact ih1 _ _ _)
      | (with_reducible exact impl_NonResidue.mono _ _)
      | (with_reducible exact impl_PrimeIs.mono _ _)
      | (with_reducible exact impl_ResidueIs.mono _ _ _)
      | (with_reducible exact spec_DrawNonResidue.mono _ _)
      | (with_reducible exact spec_NonResidue.mono _ _)
      | (with_reducible exact LeO.refl _)
      | (with_reducible exact LeO.none _)
      | (with_reducible refine LeO.ite ?_ ?_)
      | (with_reducible refine LeO.bind ?_ (fun _ => ?_))
      | exact ih0 _ _ _ _ _ _
      | exact ih1 _ _ _
      | exact impl_NonResidue.mono _ _
      | exact impl_PrimeIs.mono _ _
      | exact impl_ResidueIs.mono _ _ _
      | exact spec_DrawNonResidue.mono _ _
      | exact spec_NonResidue.mono _ _
      | exact LeO.none _
      | refine LeO.ite ?_ ?_
      | refine LeO.bind ?_ (fun _ => ?_)
set_option maxHeartbeats 8000000 in
set_option maxRecDepth 100000 in
theorem laws_FnNonResidue.calls (k : Nat) (A0 : Option Addr) (c0 : Nat) (l0 : List Int) (r : Bool) (w : World) (hr0 : Kd.C (Kd.int .u8) w A0 l0.length l0) (hc0 : l0.length ≤ c0) (h : laws_FnNonResidue.f k l0 = some r) :
    Calls Try.prog 5 #[.slice A0 l0.length c0] w fun e w' => e = .returned (.bool r) ∧ Below w.heap.size w w' := by
  have HR0 := Aside0.mk hr0
  have HC0 := Aside0.mk hc0
  clear hr0 hc0
  have HB := Aside0.mk (Below.refl w.heap.size w)
  have H : (if (l0.length : Int) > 1048576 then (some true) else ((spec_DrawNonResidue.f k l0).bind fun t130 => ((impl_NonResidue.f k t130).bind fun bt131 => ((spec_NonResidue.f k t130).bind fun bt133 => (if (bt131.2 != bt133.2) = true then (laws_FnNonResidue.j0 k t130 bt131.1 bt131.2 bt133.1 bt133.2 true) else (if bt131.1 = bt133.1 then (laws_FnNonResidue.j0 k t130 bt131.1 bt131.2 bt133.1 bt133.2 (!bt131.2)) else (laws_FnNonResidue.j0 k t130 bt131.1 bt131.2 bt133.1 bt133.2 true))))))) = some r := h
  clear h
  by_cases c2 : (l0.length : Int) > 1048576
  · rw [if_pos c2] at H
    have c2b0 : decide (1048576 < (l0.length : Int)) = true := decide_eq_true c2
    have c2b1 : decide (1048576 < l0.length) = true := decide_eq_true (by omega)
    clear c2
    obtain rfl := Option.some.inj H
    go_enter Try.func5, Try.ntmps5
    go_wp2
    go_ret
    exact ⟨by first | rfl | (simp [errW_none, errW_some] <;> rfl) | (simp [*, errW_none, errW_some] <;> rfl), by repeat (first | (with_reducible first | exact HB.out | apply below_alloc | apply pw_below_drewN | apply below_drew1) | exact HB.out)⟩
  · rw [if_neg c2] at H
    have c2b0 : decide (1048576 < (l0.length : Int)) = false := decide_eq_false c2
    have c2b1 : decide (1048576 < l0.length) = false := decide_eq_false (by omega)
    clear c2
    replace H := Option.bind_eq_some_iff.mp H
    obtain ⟨t130, A30, H⟩ := H
    replace H : ((impl_NonResidue.f k t130).bind fun bt131 => ((spec_NonResidue.f k t130).bind fun bt133 => (if (bt131.2 != bt133.2) = true then (laws_FnNonResidue.j0 k t130 bt131.1 bt131.2 bt133.1 bt133.2 true) else (if bt131.1 = bt133.1 then (laws_FnNonResidue.j0 k t130 bt131.1 bt131.2 bt133.1 bt133.2 (!bt131.2)) else (laws_FnNonResidue.j0 k t130 bt131.1 bt131.2 bt133.1 bt133.2 true))))) = some r := H
    have A3 := Aside0.mk A30
    clear A30
    replace H := Option.bind_eq_some_iff.mp H
    obtain ⟨⟨t131, t132⟩, A40, H⟩ := H
    replace H : ((spec_NonResidue.f k t130).bind fun bt133 => (if (t132 != bt133.2) = true then (laws_FnNonResidue.j0 k t130 t131 t132 bt133.1 bt133.2 true) else (if t131 = bt133.1 then (laws_FnNonResidue.j0 k t130 t131 t132 bt133.1 bt133.2 (!t132)) else (laws_FnNonResidue.j0 k t130 t131 t132 bt133.1 bt133.2 true)))) = some r := H
    have A4 := Aside0.mk A40
    clear A40
    replace H := Option.bind_eq_some_iff.mp H
    obtain ⟨⟨t133, t134⟩, A50, H⟩ := H
    replace H : (if (t132 != t134) = true then (laws_FnNonResidue.j0 k t130 t131 t132 t133 t134 true) else (if t131 = t133 then (laws_FnNonResidue.j0 k t130 t131 t132 t133 t134 (!t132)) else (laws_FnNonResidue.j0 k t130 t131 t132 t133 t134 true))) = some r := H
    have A5 := Aside0.mk A50
    clear A50
    have HC6 := Aside0.mk H
    clear H
    go_enter Try.func5, Try.ntmps5
    go_upto_region 6 with (first | ((with_reducible refine gate_callee (f := 21) rfl ?_); refine goesL_ (some 13) rfl rfl Try.func21 (by kernel_rfl) rfl #[.slice A0 l0.length c0] rfl (by (try simp only [List.map_toArray, List.map_cons, List.map_nil]); first | done | rfl | (simp only [List.length_drop, List.length_take]; rfl)) ?_; (with_reducible refine (spec_DrawNonResidue.calls k _ _ l0 t130 _ ?side1 ?side2 A3.out).mono ?_); (case side1 => repeat (first | exact HR0.out | (with_reducible refine Kd.C_alloc ?_ _) | (with_reducible refine Kd.C_drewN ?_ _) | (with_reducible refine Kd.C_drew ?_))); (case side2 => exact HC0.out); rintro e w7 ⟨rfl, hb⟩; refine ⟨_, rfl, ?_⟩; have n0_ := Aside0.mk (below_step (by repeat (first | (with_reducible first | exact HB.out | apply below_alloc | apply pw_below_drewN | apply below_drew1) | exact HB.out)) hb); clear HB; have HB := n0_; clear n0_; (try clear hb); (try clear hb2); (try clear hk); (try clear hi)) | ((with_reducible refine gate_callee (f := 22) rfl ?_); refine goesL_ (some 16) rfl rfl Try.func22 (by kernel_rfl) rfl #[.int .i64 t130] rfl (by (try simp only [List.map_toArray, List.map_cons, List.map_nil]); first | done | rfl | (simp only [List.length_drop, List.length_take]; rfl)) ?_; (with_reducible refine (impl_NonResidue.calls k t130 t131 t132 _ A4.out).mono ?_); rintro e w' ⟨rfl, ⟨nd, rfl⟩⟩; refine ⟨_, rfl, ?_⟩) | ((with_reducible refine gate_callee (f := 23) rfl ?_); refine goesL_ (some 21) rfl rfl Try.func23 (by kernel_rfl) rfl #[.int .i64 t130] rfl (by (try simp only [List.map_toArray, List.map_cons, List.map_nil]); first | done | rfl | (simp only [List.length_drop, List.length_take]; rfl)) ?_; (with_reducible refine (spec_NonResidue.calls k t130 t133 t134 _ A5.out).mono ?_); rintro e w' ⟨rfl, ⟨nd, rfl⟩⟩; refine ⟨_, rfl, ?_⟩))
    (try simp only [Act.put, List.setIfInBounds_toArray, List.set_cons_zero, List.set_cons_succ])
    go_cut [35] (fun v35 wc => ∃ (kq : Nat) (x35_5 : Bool), v35 = .bool x35_5 ∧ Aside0 (laws_FnNonResidue.j0 kq t130 t131 t132 t133 t134 x35_5 = some r) ∧ Aside0 (kq ≤ k) ∧ Aside0 (Below w.heap.size w wc))
    case first =>
      have H := HC6.out
      clear HC6
      by_cases c8 : (t132 != t134) = true
      · rw [if_pos c8] at H
        have c8b0 : (t132 != t134) = true := c8
        (try (have c8b1 : decide (t132 = t134) = false := by simpa using c8))
        (try (have c8b2 : (t132 == t134) = false := by simpa using c8))
        (try (have c8b3 : ¬ (t132 = t134) := by simpa using c8))
        clear c8
        (first | rw [c8b0] | (simp only [i64_w, i32_w]; rw [c8b0]) | skip)
        have H' := Aside0.mk H
        clear H
        go_wp2
        go_meet
        case rel => exact ⟨_, (true), (by first | rfl | (simp; done) | (simp [*]; done)), H', ⟨by first | omega | exact Nat.le_refl _⟩, ⟨by repeat (first | (with_reducible first | exact HB.out | apply below_alloc | apply pw_below_drewN | apply below_drew1) | exact HB.out)⟩⟩
      · rw [if_neg c8] at H
        have c8b0 : (t132 != t134) = false := by simpa using c8
        (try (have c8b1 : decide (t132 = t134) = true := by simpa using c8))
        (try (have c8b2 : (t132 == t134) = true := by simpa using c8))
        clear c8
        (first | rw [c8b0] | (simp only [i64_w, i32_w]; rw [c8b0]) | skip)
        by_cases c9 : t131 = t133
        · rw [if_pos c9] at H
          have c9b0 : (t131 == t133) = true := beq_iff_eq.mpr c9
          have c9b1 : (t131 != t133) = false := bne_eq_false_iff_eq.mpr c9
          clear c9
          have H' := Aside0.mk H
          clear H
          go_wp2
          go_meet
          case rel => exact ⟨_, (!t132), (by first | rfl | (simp; done) | (simp [*]; done)), H', ⟨by first | omega | exact Nat.le_refl _⟩, ⟨by repeat (first | (with_reducible first | exact HB.out | apply below_alloc | apply pw_below_drewN | apply below_drew1) | exact HB.out)⟩⟩
        · rw [if_neg c9] at H
          have c9b0 : (t131 == t133) = false := beq_eq_false_iff_ne.mpr c9
          have c9b1 : (t131 != t133) = true := bne_iff_ne.mpr c9
          have H' := Aside0.mk H
          clear H
          go_wp2
          go_meet
          case rel => exact ⟨_, (true), (by first | rfl | (simp; done) | (simp [*]; done)), H', ⟨by first | omega | exact Nat.le_refl _⟩, ⟨by repeat (first | (with_reducible first | exact HB.out | apply below_alloc | apply pw_below_drewN | apply below_drew1) | exact HB.out)⟩⟩
    case rest =>
      clear HC6
      try clear c2
      try clear c2b0
      try clear c2b1
      try clear p2
      try clear c5
      try clear c8
      try clear c8b0
      try clear c8b1
      try clear c8b2
      try clear c9
      try clear c9b0
      try clear c9b1
      obtain ⟨kq, x35_5, rfl, HA, HJ5, HB⟩ := hcut
      cases kq with
      | zero => exact absurd HA.out (by simp [laws_FnNonResidue.j0])
      | succ kj5 =>
        have H := HA.out
        clear HA
        simp only [laws_FnNonResidue.j0] at H
        by_cases c10 : x35_5 = true
        · subst c10
          have H1 : (if (t132 == t134) = true then (some (t131 == t133)) else (some false)) = some r := by rw [if_pos rfl] at H; exact H
          clear H
          have H := H1
          clear H1
          by_cases c11 : (t132 == t134) = true
          · rw [if_pos c11] at H
            have c11b0 : (t132 == t134) = true := c11
            (try (have c11b1 : decide (t132 = t134) = true := by simpa using c11))
            (try (have c11b2 : (t132 == t134) = true := by simpa using c11))
            clear c11
            obtain rfl := Option.some.inj H
            go_wp2
            go_ret
            exact ⟨by first | rfl | (simp [errW_none, errW_some] <;> rfl) | (simp [*, errW_none, errW_some] <;> rfl), by repeat (first | (with_reducible first | exact HB.out | apply below_alloc | apply pw_below_drewN | apply below_drew1) | exact HB.out)⟩
          · rw [if_neg c11] at H
            have c11b0 : (t132 == t134) = false := by simpa using c11
            (try (have c11b1 : decide (t132 = t134) = false := by simpa using c11))
            (try (have c11b2 : (t132 == t134) = false := by simpa using c11))
            (try (have c11b3 : ¬ (t132 = t134) := by simpa using c11))
            clear c11
            obtain rfl := Option.some.inj H
            go_wp2
            go_ret
            exact ⟨by first | rfl | (simp [errW_none, errW_some] <;> rfl) | (simp [*, errW_none, errW_some] <;> rfl), by repeat (first | (with_reducible first | exact HB.out | apply below_alloc | apply pw_below_drewN | apply below_drew1) | exact HB.out)⟩
        · replace c10 := Bool.eq_false_iff.mpr c10
          subst c10
          have H1 : (laws_FnNonResidue.l0 kj5 t130 t131 1) = some r := by rw [if_neg (show ¬ (false = true) by decide)] at H; exact H
          clear H
          have H := H1
          clear H1
          have H' := Aside0.mk H
          clear H
          go_wp2
          go_loopg [8] kj5 (fun kq v8 w' => ∃ (x8_2 : Int), v8 = .int .i64 x8_2 ∧ Aside0 (laws_FnNonResidue.l0 kq t130 t131 x8_2 = some r) ∧ Aside0 (kq ≤ kj5) ∧ Aside0 (Below w.heap.size w w'))
          case atStart => exact ⟨(1), (by first | rfl | (simp; done) | (simp [*]; done)), H', ⟨Nat.le_refl _⟩, ⟨by repeat (first | (with_reducible first | exact HB.out | apply below_alloc | apply pw_below_drewN | apply below_drew1) | exact HB.out)⟩⟩
          case round =>
            clear H'
            try clear c1
            try clear c2
            try clear c2b0
            try clear c2b1
            try clear p2
            try clear c5
            try clear c8
            try clear c8b0
            try clear c8b1
            try clear c8b2
            try clear c9
            try clear c9b0
            try clear c9b1
            try clear c10
            try clear c11
            try clear c11b0
            try clear c11b1
            try clear c11b2
            try clear p2
            obtain ⟨x8_2, rfl, HA, HK2, HB⟩ := hrel
            cases gk with
            | zero => exact absurd HA.out (by simp [laws_FnNonResidue.l0])
            | succ k2 =>
              have H := HA.out
              clear HA
              simp only [laws_FnNonResidue.l0] at H
              by_cases c12 : x8_2 < t131
              · rw [if_pos c12] at H
                have c12b0 : decide (x8_2 < t131) = true := decide_eq_true c12
                clear c12
                replace H := Option.bind_eq_some_iff.mp H
                obtain ⟨t135, A130, H⟩ := H
                replace H : (if t135 = 1 then (laws_FnNonResidue.l0 k2 t130 t131 (wrap64 (x8_2 + 1))) else (some false)) = some r := H
                have A13 := Aside0.mk A130
                clear A130
                by_cases c14 : t135 = 1
                · rw [if_pos c14] at H
                  have c14b0 : (t135 == 1) = true := beq_iff_eq.mpr c14
                  have c14b1 : (t135 != 1) = false := bne_eq_false_iff_eq.mpr c14
                  clear c14
                  have H' := Aside0.mk H
                  clear H
                  go_wp2_with (first | ((with_reducible refine gate_callee (f := 24) rfl ?_); refine goesL_ (some 51) rfl rfl Try.func24 (by kernel_rfl) rfl #[.int .i64 x8_2, .int .i64 t130] rfl (by (try simp only [List.map_toArray, List.map_cons, List.map_nil]); first | done | rfl | (simp only [List.length_drop, List.length_take]; rfl)) ?_; (with_reducible refine (impl_ResidueIs.calls k2 x8_2 t130 t135 _ A13.out).mono ?_); rintro e w' ⟨rfl, ⟨nd, rfl⟩⟩; refine ⟨_, rfl, ?_⟩))
                  go_roundg k2
                  case measure => have := HJ5.out; have := HK2.out; omega
                  case rel => exact ⟨(wrap64 (x8_2 + 1)), (by first | rfl | (simp; done) | (simp [*]; done)), H', ⟨by have := HJ5.out; have := HK2.out; omega⟩, ⟨by repeat (first | (with_reducible first | exact HB.out | apply below_alloc | apply pw_below_drewN | apply below_drew1) | exact HB.out)⟩⟩
                · rw [if_neg c14] at H
                  have c14b0 : (t135 == 1) = false := beq_eq_false_iff_ne.mpr c14
                  have c14b1 : (t135 != 1) = true := bne_iff_ne.mpr c14
                  obtain rfl := Option.some.inj H
                  go_wp2_with (first | ((with_reducible refine gate_callee (f := 24) rfl ?_); refine goesL_ (some 51) rfl rfl Try.func24 (by kernel_rfl) rfl #[.int .i64 x8_2, .int .i64 t130] rfl (by (try simp only [List.map_toArray, List.map_cons, List.map_nil]); first | done | rfl | (simp only [List.length_drop, List.length_take]; rfl)) ?_; (with_reducible refine (impl_ResidueIs.calls k2 x8_2 t130 t135 _ A13.out).mono ?_); rintro e w' ⟨rfl, ⟨nd, rfl⟩⟩; refine ⟨_, rfl, ?_⟩))
                  go_ret
                  exact ⟨by first | rfl | (simp [errW_none, errW_some] <;> rfl) | (simp [*, errW_none, errW_some] <;> rfl), by repeat (first | (with_reducible first | exact HB.out | apply below_alloc | apply pw_below_drewN | apply below_drew1) | exact HB.out)⟩
              · rw [if_neg c12] at H
                have c12b0 : decide (x8_2 < t131) = false := decide_eq_false c12
                clear c12
                replace H := Option.bind_eq_some_iff.mp H
                obtain ⟨t136, A150, H⟩ := H
                replace H : (if t136 = (-1) then ((impl_PrimeIs.f k2 t131).bind fun t137 => (some t137)) else (some false)) = some r := H
                have A15 := Aside0.mk A150
                clear A150
                by_cases c16 : t136 = (-1)
                · rw [if_pos c16] at H
                  have c16b0 : (t136 == (-1)) = true := beq_iff_eq.mpr c16
                  have c16b1 : (t136 != (-1)) = false := bne_eq_false_iff_eq.mpr c16
                  clear c16
                  replace H := Option.bind_eq_some_iff.mp H
                  obtain ⟨t137, A170, H⟩ := H
                  replace H : (some t137) = some r := H
                  have A17 := Aside0.mk A170
                  clear A170
                  obtain rfl := Option.some.inj H
                  go_wp2_with (first | ((with_reducible refine gate_callee (f := 24) rfl ?_); refine goesL_ (some 55) rfl rfl Try.func24 (by kernel_rfl) rfl #[.int .i64 t131, .int .i64 t130] rfl (by (try simp only [List.map_toArray, List.map_cons, List.map_nil]); first | done | rfl | (simp only [List.length_drop, List.length_take]; rfl)) ?_; (with_reducible refine (impl_ResidueIs.calls k2 t131 t130 t136 _ A15.out).mono ?_); rintro e w' ⟨rfl, ⟨nd, rfl⟩⟩; refine ⟨_, rfl, ?_⟩) | (go_at_call 25; (with_reducible refine (impl_PrimeIs.calls k2 t131 t137 _ A17.out).mono ?_); rintro e w' ⟨rfl, ⟨nd, rfl⟩⟩))
                  go_ret
                  exact ⟨by first | rfl | (simp [errW_none, errW_some] <;> rfl) | (simp [*, errW_none, errW_some] <;> rfl), by repeat (first | (with_reducible first | exact HB.out | apply below_alloc | apply pw_below_drewN | apply below_drew1) | exact HB.out)⟩
                · rw [if_neg c16] at H
                  have c16b0 : (t136 == (-1)) = false := beq_eq_false_iff_ne.mpr c16
                  have c16b1 : (t136 != (-1)) = true := bne_iff_ne.mpr c16
                  obtain rfl := Option.some.inj H
                  go_wp2_with (first | ((with_reducible refine gate_callee (f := 24) rfl ?_); refine goesL_ (some 55) rfl rfl Try.func24 (by kernel_rfl) rfl #[.int .i64 t131, .int .i64 t130] rfl (by (try simp only [List.map_toArray, List.map_cons, List.map_nil]); first | done | rfl | (simp only [List.length_drop, List.length_take]; rfl)) ?_; (with_reducible refine (impl_ResidueIs.calls k2 t131 t130 t136 _ A15.out).mono ?_); rintro e w' ⟨rfl, ⟨nd, rfl⟩⟩; refine ⟨_, rfl, ?_⟩))
                  go_ret
                  exact ⟨by first | rfl | (simp [errW_none, errW_some] <;> rfl) | (simp [*, errW_none, errW_some] <;> rfl), by repeat (first | (with_reducible first | exact HB.out | apply below_alloc | apply pw_below_drewN | apply below_drew1) | exact HB.out)⟩

/-- THE ONE PURE STATEMENT of laws_FnNonResidue: yours. -/
def laws_FnNonResidue.Pure : Prop := ∀ (l0 : List Int), l0.length ≤ maxLen → l0.length * 1 ≤ 140737488351232 → (∀ x ∈ l0, (Lit.int .u8 x).wf = true) → ∃ k, laws_FnNonResidue.f k l0 = some true
theorem laws_FnNonResidue.walk (P : laws_FnNonResidue.Pure) (a0 : Option Addr) (len0 cap0 : Nat) (z0 : List Int) (w : World) (w0 : (a0 = none ∧ len0 = 0 ∧ cap0 = 0 ∧ z0 = []) ∨ ∃ x, a0 = some x ∧ len0 ≤ cap0 ∧ cap0 ≤ maxLen ∧ z0.length = cap0 ∧ (∀ i, i < z0.length → w.cell? (x.add i) = some (.int .u8 (z0.getD i 0))) ∧ ∀ n ∈ z0, (Lit.int .u8 n).wf = true) (y0 : len0 * 1 ≤ 140737488351232) :
    Calls Try.prog 5 #[.slice a0 len0 cap0] w fun e w' => e = .returned (.bool true) ∧ Below w.heap.size w w' := by
  obtain ⟨l0, rfl, hr0, hm0, hw0, hc0⟩ := ReadsInt.ofRowC w0
  obtain ⟨k, h⟩ := P l0 hm0 y0 hw0
  refine (laws_FnNonResidue.calls k _ _ l0 true w (Kd.C_of_reads (d := (0 : Int)) (h1 := fun _ => rfl) hr0) hc0 h).mono ?_
  rintro e w' ⟨rfl, hd⟩
  exact ⟨rfl, hd⟩

end Go.Proofs.Ytnbjnlbaoogbmaa.PFnNonResidue
