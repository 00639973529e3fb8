-- PRINTED BY print.sh 35421559b90ae4d0a3588c463048766b98c2df88dd9212a6774a882060cdf62d: not written by this session
import Derived.Test.YtmepbogcfkecnaaPFnExactSymbolModulox0
namespace Go.Proofs.Ytmepbogcfkecnaa.PFnExactSymbolModulo
open Go.RowKit Go.Proofs.YtmepbogcfkecnaaW.PrintWords Go.Proofs.YtmepbogcfkecnaaW.PrintLast Go.Proofs.YtmepbogcfkecnaaW.PrintMore
attribute [local go_sem] max2_int min2_int max_two min_two max_three min_three max_four min_four   -- for this text's walks alone
set_option linter.unusedVariables false
set_option linter.unusedSimpArgs false

/-! ### spec_l6In: function 70 -/
def spec_l6In.f (a0 : Int) (a1 : Int) (a2 : Int) : Option (Bool) := if a0 ≥ a1 then (some (decide (a0 ≤ a2))) else (some false)
set_option maxHeartbeats 8000000 in
set_option maxRecDepth 100000 in
theorem spec_l6In.calls (a0 : Int) (a1 : Int) (a2 : Int) (r : Bool) (w : World) (h : spec_l6In.f a0 a1 a2 = some r) :
    Calls Try.prog 70 #[.int .i64 a0, .int .i64 a1, .int .i64 a2] w fun e w' => e = .returned (.bool r) ∧ Drawn0 w w' := by
  have H : (if a0 ≥ a1 then (some (decide (a0 ≤ a2))) else (some false)) = some r := h
  clear h
  by_cases c4 : a0 ≥ a1
  · rw [if_pos c4] at H
    have c4b0 : decide (a1 ≤ a0) = true := decide_eq_true c4
    clear c4
    obtain rfl := Option.some.inj H
    go_enter Try.func70, Try.ntmps70
    go_wp2
    go_ret
    exact ⟨by first | rfl | (simp; done) | (simp [*]; done), by repeat (first | exact Drawn0.refl _ | apply Drawn0.step)⟩
  · rw [if_neg c4] at H
    have c4b0 : decide (a1 ≤ a0) = false := decide_eq_false c4
    clear c4
    obtain rfl := Option.some.inj H
    go_enter Try.func70, Try.ntmps70
    go_wp2
    go_ret
    exact ⟨by first | rfl | (simp; done) | (simp [*]; done), by repeat (first | exact Drawn0.refl _ | apply Drawn0.step)⟩

/-! ### spec_l1Number: function 69 -/
def spec_l1Number.f (a0 : Int) : Option (Bool) := (spec_l6In.f a0 (-5000) 5000).bind fun t101 => (some t101)
set_option maxHeartbeats 8000000 in
set_option maxRecDepth 100000 in
theorem spec_l1Number.calls (a0 : Int) (r : Bool) (w : World) (h : spec_l1Number.f a0 = some r) :
    Calls Try.prog 69 #[.int .i64 a0] w fun e w' => e = .returned (.bool r) ∧ Drawn0 w w' := by
  have H : ((spec_l6In.f a0 (-5000) 5000).bind fun t101 => (some t101)) = some r := h
  clear h
  replace H := Option.bind_eq_some_iff.mp H
  obtain ⟨t101, A20, H⟩ := H
  replace H : (some t101) = some r := H
  have A2 := Aside0.mk A20
  clear A20
  obtain rfl := Option.some.inj H
  go_enter Try.func69, Try.ntmps69
  go_wp2_with (first | ((with_reducible refine gate_callee (f := 70) rfl ?_); refine goesL_ (some 4) rfl rfl Try.func70 (by kernel_rfl) rfl #[.int .i64 a0, .int .i64 (-5000), .int .i64 5000] rfl (by (try simp only [List.map_toArray, List.map_cons, List.map_nil]); first | done | rfl | (simp only [List.length_drop, List.length_take]; rfl)) ?_; (with_reducible refine (spec_l6In.calls a0 (-5000) 5000 t101 _ A2.out).mono ?_); rintro e w' ⟨rfl, ⟨nd, rfl⟩⟩; refine ⟨_, rfl, ?_⟩))
  go_ret
  exact ⟨by first | rfl | (simp; done) | (simp [*]; done), by repeat (first | exact Drawn0.refl _ | apply Drawn0.step)⟩

/-! ### spec_l3Ok: function 60 -/
def spec_l3Ok.f (a0 : Int) (a1 : Int) : Option (Bool) := (spec_l1Number.f a0).bind fun t102 => (if t102 = true then ((spec_l1Number.f a1).bind fun t103 => (if t103 = true then (if a0 = 0 then (some false) else (some (a1 != 0))) else (some false))) else (some false))
set_option maxHeartbeats 8000000 in
set_option maxRecDepth 100000 in
theorem spec_l3Ok.calls (a0 : Int) (a1 : Int) (r : Bool) (w : World) (h : spec_l3Ok.f a0 a1 = some r) :
    Calls Try.prog 60 #[.int .i64 a0, .int .i64 a1] w fun e w' => e = .returned (.bool r) ∧ Drawn0 w w' := by
  have H : ((spec_l1Number.f a0).bind fun t102 => (if t102 = true then ((spec_l1Number.f a1).bind fun t103 => (if t103 = true then (if a0 = 0 then (some false) else (some (a1 != 0))) else (some false))) else (some false))) = some r := h
  clear h
  replace H := Option.bind_eq_some_iff.mp H
  obtain ⟨t102, A30, H⟩ := H
  replace H : (if t102 = true then ((spec_l1Number.f a1).bind fun t103 => (if t103 = true then (if a0 = 0 then (some false) else (some (a1 != 0))) else (some false))) else (some false)) = some r := H
  have A3 := Aside0.mk A30
  clear A30
  by_cases c4 : t102 = true
  · subst c4
    have H1 : ((spec_l1Number.f a1).bind fun t103 => (if t103 = true then (if a0 = 0 then (some false) else (some (a1 != 0))) else (some false))) = some r := by rw [if_pos rfl] at H; exact H
    clear H
    have H := H1
    clear H1
    replace H := Option.bind_eq_some_iff.mp H
    obtain ⟨t103, A50, H⟩ := H
    replace H : (if t103 = true then (if a0 = 0 then (some false) else (some (a1 != 0))) else (some false)) = some r := H
    have A5 := Aside0.mk A50
    clear A50
    by_cases c6 : t103 = true
    · subst c6
      have H1 : (if a0 = 0 then (some false) else (some (a1 != 0))) = some r := by rw [if_pos rfl] at H; exact H
      clear H
      have H := H1
      clear H1
      by_cases c7 : a0 = 0
      · rw [if_pos c7] at H
        have c7b0 : (a0 == 0) = true := beq_iff_eq.mpr c7
        have c7b1 : (a0 != 0) = false := bne_eq_false_iff_eq.mpr c7
        clear c7
        obtain rfl := Option.some.inj H
        go_enter Try.func60, Try.ntmps60
        go_wp2_with (first | ((with_reducible refine gate_callee (f := 69) rfl ?_); refine goesL_ (some 6) rfl rfl Try.func69 (by kernel_rfl) rfl #[.int .i64 a0] rfl (by (try simp only [List.map_toArray, List.map_cons, List.map_nil]); first | done | rfl | (simp only [List.length_drop, List.length_take]; rfl)) ?_; (with_reducible refine (spec_l1Number.calls a0 true _ A3.out).mono ?_); rintro e w' ⟨rfl, ⟨nd, rfl⟩⟩; refine ⟨_, rfl, ?_⟩) | (go_at_call 69; (with_reducible refine (spec_l1Number.calls a1 true _ A5.out).mono ?_); rintro e w' ⟨rfl, ⟨nd, rfl⟩⟩))
        go_ret
        exact ⟨by first | rfl | (simp; done) | (simp [*]; done), by repeat (first | exact Drawn0.refl _ | apply Drawn0.step)⟩
      · rw [if_neg c7] at H
        have c7b0 : (a0 == 0) = false := beq_eq_false_iff_ne.mpr c7
        have c7b1 : (a0 != 0) = true := bne_iff_ne.mpr c7
        obtain rfl := Option.some.inj H
        go_enter Try.func60, Try.ntmps60
        go_wp2_with (first | ((with_reducible refine gate_callee (f := 69) rfl ?_); refine goesL_ (some 6) rfl rfl Try.func69 (by kernel_rfl) rfl #[.int .i64 a0] rfl (by (try simp only [List.map_toArray, List.map_cons, List.map_nil]); first | done | rfl | (simp only [List.length_drop, List.length_take]; rfl)) ?_; (with_reducible refine (spec_l1Number.calls a0 true _ A3.out).mono ?_); rintro e w' ⟨rfl, ⟨nd, rfl⟩⟩; refine ⟨_, rfl, ?_⟩) | (go_at_call 69; (with_reducible refine (spec_l1Number.calls a1 true _ A5.out).mono ?_); rintro e w' ⟨rfl, ⟨nd, rfl⟩⟩))
        go_ret
        exact ⟨by first | rfl | (simp; done) | (simp [*]; done), by repeat (first | exact Drawn0.refl _ | apply Drawn0.step)⟩
    · replace c6 := Bool.eq_false_iff.mpr c6
      subst c6
      have H1 : (some false) = some r := by rw [if_neg (show ¬ (false = true) by decide)] at H; exact H
      clear H
      have H := H1
      clear H1
      obtain rfl := Option.some.inj H
      go_enter Try.func60, Try.ntmps60
      go_wp2_with (first | ((with_reducible refine gate_callee (f := 69) rfl ?_); refine goesL_ (some 6) rfl rfl Try.func69 (by kernel_rfl) rfl #[.int .i64 a0] rfl (by (try simp only [List.map_toArray, List.map_cons, List.map_nil]); first | done | rfl | (simp only [List.length_drop, List.length_take]; rfl)) ?_; (with_reducible refine (spec_l1Number.calls a0 true _ A3.out).mono ?_); rintro e w' ⟨rfl, ⟨nd, rfl⟩⟩; refine ⟨_, rfl, ?_⟩) | (go_at_call 69; (with_reducible refine (spec_l1Number.calls a1 false _ A5.out).mono ?_); rintro e w' ⟨rfl, ⟨nd, rfl⟩⟩))
      go_ret
      exact ⟨by first | rfl | (simp; done) | (simp [*]; done), by repeat (first | exact Drawn0.refl _ | apply Drawn0.step)⟩
  · replace c4 := Bool.eq_false_iff.mpr c4
    subst c4
    have H1 : (some false) = some r := by rw [if_neg (show ¬ (false = true) by decide)] at H; exact H
    clear H
    have H := H1
    clear H1
    obtain rfl := Option.some.inj H
    go_enter Try.func60, Try.ntmps60
    go_wp2_with (first | ((with_reducible refine gate_callee (f := 69) rfl ?_); refine goesL_ (some 6) rfl rfl Try.func69 (by kernel_rfl) rfl #[.int .i64 a0] rfl (by (try simp only [List.map_toArray, List.map_cons, List.map_nil]); first | done | rfl | (simp only [List.length_drop, List.length_take]; rfl)) ?_; (with_reducible refine (spec_l1Number.calls a0 false _ A3.out).mono ?_); rintro e w' ⟨rfl, ⟨nd, rfl⟩⟩; refine ⟨_, rfl, ?_⟩))
    go_ret
    exact ⟨by first | rfl | (simp; done) | (simp [*]; done), by repeat (first | exact Drawn0.refl _ | apply Drawn0.step)⟩

/-! ### spec_PrimeIs: function 61 -/
def spec_PrimeIs.l0 : Nat → Int → Int → Option (Bool)
  | 0, _, _ => none
  | k + 1, x0, x3 => if (wrap64 (x3 * x3)) ≤ x0 then (if x3 = 0 then (none) else (if (Int.tmod x0 x3) = 0 then (some false) else (spec_PrimeIs.l0 k x0 (wrap64 (x3 + 1))))) else (some true)
def spec_PrimeIs.f (k : Nat) (a0 : Int) : Option (Bool) := (spec_l6In.f a0 2 5000).bind fun t104 => (if t104 = true then (spec_PrimeIs.l0 k a0 2) else (some false))
theorem spec_PrimeIs.mono_l : ∀ k, (∀ y0 y1, LeO (spec_PrimeIs.l0 k y0 y1) (spec_PrimeIs.l0 (k + 1) y0 y1))
  | 0 => fun _ _ r h => by simp [spec_PrimeIs.l0] at h
  | k + 1 => by
    have ih0 := spec_PrimeIs.mono_l k
    · intro y0 y1
      unfold spec_PrimeIs.l0
      repeat' first
      | (with_reducible exact ih0 _ _)
      | (with_reducible exact LeO.refl _)
      | (with_reducible exact LeO.none _)
      | (with_reducible refine LeO.ite ?_ ?_)
      | (with_reducible refine LeO.bind ?_ (fun _ => ?_))
      | exact ih0 _ _
      | exact LeO.none _
      | refine LeO.ite ?_ ?_
      | refine LeO.bind ?_ (fun _ => ?_)
theorem spec_PrimeIs.mono : ∀ a0 k, LeO (spec_PrimeIs.f k a0) (spec_PrimeIs.f (k + 1) a0) := by
  intro a0 k
  have ih0 := spec_PrimeIs.mono_l k
  unfold spec_PrimeIs.f
  repeat' first
      | (with_reducible exact ih0 _ _)
      | (with_reducible exact LeO.refl _)
      | (with_reducible exact LeO.none _)
      | (with_reducible refine LeO.ite ?_ ?_)
      | (with_reducible refine LeO.bind ?_ (fun _ => ?_))
      | exact ih0 _ _
      | exact LeO.none _
      | refine LeO.ite ?_ ?_
      | refine LeO.bind ?_ (fun _ => ?_)
set_option maxHeartbeats 8000000 in
set_option maxRecDepth 100000 in
theorem spec_PrimeIs.calls (k : Nat) (a0 : Int) (r : Bool) (w : World) (h : spec_PrimeIs.f k a0 = some r) :
    Calls Try.prog 61 #[.int .i64 a0] w fun e w' => e = .returned (.bool r) ∧ Drawn0 w w' := by
  have H : ((spec_l6In.f a0 2 5000).bind fun t104 => (if t104 = true then (spec_PrimeIs.l0 k a0 2) else (some false))) = some r := h
  clear h
  replace H := Option.bind_eq_some_iff.mp H
  obtain ⟨t104, A20, H⟩ := H
  replace H : (if t104 = true then (spec_PrimeIs.l0 k a0 2) else (some false)) = some r := H
  have A2 := Aside0.mk A20
  clear A20
  by_cases c3 : t104 = true
  · subst c3
    have H1 : (spec_PrimeIs.l0 k a0 2) = some r := by rw [if_pos rfl] at H; exact H
    clear H
    have H := H1
    clear H1
    have H' := Aside0.mk H
    clear H
    go_enter Try.func61, Try.ntmps61
    go_wp2_with (first | ((with_reducible refine gate_callee (f := 70) rfl ?_); refine goesL_ (some 5) rfl rfl Try.func70 (by kernel_rfl) rfl #[.int .i64 a0, .int .i64 2, .int .i64 5000] rfl (by (try simp only [List.map_toArray, List.map_cons, List.map_nil]); first | done | rfl | (simp only [List.length_drop, List.length_take]; rfl)) ?_; (with_reducible refine (spec_l6In.calls a0 2 5000 true _ A2.out).mono ?_); rintro e w' ⟨rfl, ⟨nd, rfl⟩⟩; refine ⟨_, rfl, ?_⟩))
    go_loopg [3] k (fun kq v3 w' => ∃ (x3_1 : Int), v3 = .int .i64 x3_1 ∧ Aside0 (spec_PrimeIs.l0 kq a0 x3_1 = some r) ∧ Aside0 (kq ≤ k) ∧ Drawn0 w w')
    case atStart => exact ⟨(2), (by first | rfl | (simp; done) | (simp [*]; done)), H', ⟨Nat.le_refl _⟩, by repeat (first | exact Drawn0.refl _ | apply Drawn0.step)⟩
    case round =>
      clear H'
      try clear p2
      try clear c3
      obtain ⟨x3_1, rfl, HA, HK1, ⟨m1, rfl⟩⟩ := hrel
      cases gk with
      | zero => exact absurd HA.out (by simp [spec_PrimeIs.l0])
      | succ k1 =>
        have H := HA.out
        clear HA
        simp only [spec_PrimeIs.l0] at H
        by_cases c4 : (wrap64 (x3_1 * x3_1)) ≤ a0
        · rw [if_pos c4] at H
          have c4b0 : decide ((wrap64 (x3_1 * x3_1)) ≤ a0) = true := decide_eq_true c4
          clear c4
          by_cases c5 : x3_1 = 0
          · rw [if_pos c5] at H
            exact absurd H (by simp)
          · rw [if_neg c5] at H
            have c5b0 : (x3_1 == 0) = false := beq_eq_false_iff_ne.mpr c5
            have c5b1 : (x3_1 != 0) = true := bne_iff_ne.mpr c5
            by_cases c6 : (Int.tmod a0 x3_1) = 0
            · rw [if_pos c6] at H
              have c6b0 : ((Int.tmod a0 x3_1) == 0) = true := beq_iff_eq.mpr c6
              have c6b1 : ((Int.tmod a0 x3_1) != 0) = false := bne_eq_false_iff_eq.mpr c6
              clear c6
              obtain rfl := Option.some.inj H
              go_wp2
              go_ret
              exact ⟨by first | rfl | (simp; done) | (simp [*]; done), by repeat (first | exact Drawn0.refl _ | apply Drawn0.step)⟩
            · rw [if_neg c6] at H
              have c6b0 : ((Int.tmod a0 x3_1) == 0) = false := beq_eq_false_iff_ne.mpr c6
              have c6b1 : ((Int.tmod a0 x3_1) != 0) = true := bne_iff_ne.mpr c6
              have H' := Aside0.mk H
              clear H
              go_wp2
              go_roundg k1
              case measure => have := HK1.out; omega
              case rel => exact ⟨(wrap64 (x3_1 + 1)), (by first | rfl | (simp; done) | (simp [*]; done)), H', ⟨by have := HK1.out; omega⟩, by repeat (first | exact Drawn0.refl _ | apply Drawn0.step)⟩
        · rw [if_neg c4] at H
          have c4b0 : decide ((wrap64 (x3_1 * x3_1)) ≤ a0) = false := decide_eq_false c4
          clear c4
          obtain rfl := Option.some.inj H
          go_wp2
          go_ret
          exact ⟨by first | rfl | (simp; done) | (simp [*]; done), by repeat (first | exact Drawn0.refl _ | apply Drawn0.step)⟩
  · replace c3 := Bool.eq_false_iff.mpr c3
    subst c3
    have H1 : (some false) = some r := by rw [if_neg (show ¬ (false = true) by decide)] at H; exact H
    clear H
    have H := H1
    clear H1
    obtain rfl := Option.some.inj H
    go_enter Try.func61, Try.ntmps61
    go_wp2_with (first | ((with_reducible refine gate_callee (f := 70) rfl ?_); refine goesL_ (some 5) rfl rfl Try.func70 (by kernel_rfl) rfl #[.int .i64 a0, .int .i64 2, .int .i64 5000] rfl (by (try simp only [List.map_toArray, List.map_cons, List.map_nil]); first | done | rfl | (simp only [List.length_drop, List.length_take]; rfl)) ?_; (with_reducible refine (spec_l6In.calls a0 2 5000 false _ A2.out).mono ?_); rintro e w' ⟨rfl, ⟨nd, rfl⟩⟩; refine ⟨_, rfl, ?_⟩))
    go_ret
    exact ⟨by first | rfl | (simp; done) | (simp [*]; done), by repeat (first | exact Drawn0.refl _ | apply Drawn0.step)⟩

/-! ### spec_l1Mod: function 62 -/
def spec_l1Mod.f (a0 : Int) (a1 : Int) : Option (Int) := if a1 = 0 then (none) else (some (Int.tmod (wrap64 ((Int.tmod a0 a1) + a1)) a1))
set_option maxHeartbeats 8000000 in
set_option maxRecDepth 100000 in
theorem spec_l1Mod.calls (a0 : Int) (a1 : Int) (r : Int) (w : World) (h : spec_l1Mod.f a0 a1 = some r) :
    Calls Try.prog 62 #[.int .i64 a0, .int .i64 a1] w fun e w' => e = .returned (.int .i64 r) ∧ Drawn0 w w' := by
  have H : (if a1 = 0 then (none) else (some (Int.tmod (wrap64 ((Int.tmod a0 a1) + a1)) a1))) = some r := h
  clear h
  by_cases c3 : a1 = 0
  · rw [if_pos c3] at H
    exact absurd H (by simp)
  · rw [if_neg c3] at H
    have c3b0 : (a1 == 0) = false := beq_eq_false_iff_ne.mpr c3
    have c3b1 : (a1 != 0) = true := bne_iff_ne.mpr c3
    obtain rfl := Option.some.inj H
    go_enter Try.func62, Try.ntmps62
    go_wp2
    go_ret
    exact ⟨by first | rfl | (simp; done) | (simp [*]; done), by repeat (first | exact Drawn0.refl _ | apply Drawn0.step)⟩

/-! ### spec_SymbolModulo: function 35 -/
mutual
def spec_SymbolModulo.j0 : Nat → Int → Int → Int → Int → Bool → Option (Bool)
  | 0, _, _, _, _, _ => none
  | k + 1, x0, x1, x2, x3, x31 => if x31 = true then (some false) else (spec_SymbolModulo.l0 k x0 x1 x2 x3 1 0)
def spec_SymbolModulo.l0 : Nat → Int → Int → Int → Int → Int → Int → Option (Bool)
  | 0, _, _, _, _, _, _ => none
  | k + 1, x0, x1, x2, x3, x9, x10 => if x10 < x3 then (spec_SymbolModulo.l0 k x0 x1 x2 x3 (wrap64 (x9 * x2)) (wrap64 (x10 + 1))) else (if x9 > 32 then (some false) else (spec_SymbolModulo.l1 k x0 x1 x2 x9 0))
def spec_SymbolModulo.l1 : Nat → Int → Int → Int → Int → Int → Option (Bool)
  | 0, _, _, _, _, _ => none
  | k + 1, x0, x1, x2, x9, x11 => if x11 < x9 then (spec_SymbolModulo.l2 k x0 x1 x2 x9 x11 0) else (some false)
def spec_SymbolModulo.l2 : Nat → Int → Int → Int → Int → Int → Int → Option (Bool)
  | 0, _, _, _, _, _, _ => none
  | k + 1, x0, x1, x2, x9, x11, x12 => if x12 < x9 then (spec_SymbolModulo.l3 k x0 x1 x2 x9 x11 x12 0) else (spec_SymbolModulo.l1 k x0 x1 x2 x9 (wrap64 (x11 + 1)))
def spec_SymbolModulo.l3 : Nat → Int → Int → Int → Int → Int → Int → Int → Option (Bool)
  | 0, _, _, _, _, _, _, _ => none
  | k + 1, x0, x1, x2, x9, x11, x12, x13 => if x13 < x9 then (if x2 = 0 then (none) else (if (Int.tmod x11 x2) = 0 then (if (Int.tmod x12 x2) = 0 then (if (Int.tmod x13 x2) = 0 then (spec_SymbolModulo.l3 k x0 x1 x2 x9 x11 x12 (wrap64 (x13 + 1))) else ((spec_l1Mod.f (wrap64 ((wrap64 ((wrap64 ((wrap64 (x0 * x11)) * x11)) + (wrap64 ((wrap64 (x1 * x12)) * x12)))) - (wrap64 (x13 * x13)))) x9).bind fun t108 => (if t108 = 0 then (some true) else (spec_SymbolModulo.l3 k x0 x1 x2 x9 x11 x12 (wrap64 (x13 + 1)))))) else ((spec_l1Mod.f (wrap64 ((wrap64 ((wrap64 ((wrap64 (x0 * x11)) * x11)) + (wrap64 ((wrap64 (x1 * x12)) * x12)))) - (wrap64 (x13 * x13)))) x9).bind fun t109 => (if t109 = 0 then (some true) else (spec_SymbolModulo.l3 k x0 x1 x2 x9 x11 x12 (wrap64 (x13 + 1)))))) else ((spec_l1Mod.f (wrap64 ((wrap64 ((wrap64 ((wrap64 (x0 * x11)) * x11)) + (wrap64 ((wrap64 (x1 * x12)) * x12)))) - (wrap64 (x13 * x13)))) x9).bind fun t110 => (if t110 = 0 then (some true) else (spec_SymbolModulo.l3 k x0 x1 x2 x9 x11 x12 (wrap64 (x13 + 1))))))) else (spec_SymbolModulo.l2 k x0 x1 x2 x9 x11 (wrap64 (x12 + 1)))
end
def spec_SymbolModulo.f (k : Nat) (a0 : Int) (a1 : Int) (a2 : Int) (a3 : Int) : Option (Bool) := (spec_l3Ok.f a0 a1).bind fun t105 => (if t105 = true then ((spec_PrimeIs.f k a2).bind fun t106 => (if t106 = true then (if a2 > 31 then (spec_SymbolModulo.j0 k a0 a1 a2 a3 true) else ((spec_l6In.f a3 1 5).bind fun t107 => (spec_SymbolModulo.j0 k a0 a1 a2 a3 (!t107)))) else (spec_SymbolModulo.j0 k a0 a1 a2 a3 true))) else (spec_SymbolModulo.j0 k a0 a1 a2 a3 true))
theorem spec_SymbolModulo.mono_l : ∀ k, (∀ y0 y1 y2 y3 y4, LeO (spec_SymbolModulo.j0 k y0 y1 y2 y3 y4) (spec_SymbolModulo.j0 (k + 1) y0 y1 y2 y3 y4)) ∧ (∀ y0 y1 y2 y3 y4 y5, LeO (spec_SymbolModulo.l0 k y0 y1 y2 y3 y4 y5) (spec_SymbolModulo.l0 (k + 1) y0 y1 y2 y3 y4 y5)) ∧ (∀ y0 y1 y2 y3 y4, LeO (spec_SymbolModulo.l1 k y0 y1 y2 y3 y4) (spec_SymbolModulo.l1 (k + 1) y0 y1 y2 y3 y4)) ∧ (∀ y0 y1 y2 y3 y4 y5, LeO (spec_SymbolModulo.l2 k y0 y1 y2 y3 y4 y5) (spec_SymbolModulo.l2 (k + 1) y0 y1 y2 y3 y4 y5)) ∧ (∀ y0 y1 y2 y3 y4 y5 y6, LeO (spec_SymbolModulo.l3 k y0 y1 y2 y3 y4 y5 y6) (spec_SymbolModulo.l3 (k + 1) y0 y1 y2 y3 y4 y5 y6))
  | 0 => ⟨fun _ _ _ _ _ r h => by simp [spec_SymbolModulo.j0] at h, fun _ _ _ _ _ _ r h => by simp [spec_SymbolModulo.l0] at h, fun _ _ _ _ _ r h => by simp [spec_SymbolModulo.l1] at h, fun _ _ _ _ _ _ r h => by simp [spec_SymbolModulo.l2] at h, fun _ _ _ _ _ _ _ r h => by simp [spec_SymbolModulo.l3] at h⟩
  | k + 1 => by
    obtain ⟨ih0, ih1, ih2, ih3, ih4⟩ := spec_SymbolModulo.mono_l k
    refine ⟨?_, ?_, ?_, ?_, ?_⟩
    · intro y0 y1 y2 y3 y4
      unfold spec_SymbolModulo.j0
      repeat' first
      | (with_reducible exact ih0 _ _ _ _ _)
      | (with_reducible exact ih1 _ _ _ _ _ _)
      | (with_reducible exact ih2 _ _ _ _ _)
      | (with_reducible exact ih3 _ _ _ _ _ _)
      | (with_reducible exact ih4 _ _ _ _ _ _ _)
      | (with_reducible exact spec_PrimeIs.mono _ _)
      | (with_reducible exact LeO.refl _)
      | (with_reducible exact LeO.none _)
      | (with_reducible refine LeO.ite ?_ ?_)
      | (with_reducible refine LeO.bind ?_ (fun _ => ?_))
      | exact ih0 _ _ _ _ _
      | exact ih1 _ _ _ _ _ _
      | exact ih2 _ _ _ _ _
      | exact ih3 _ _ _ _ _ _
      | exact ih4 _ _ _ _ _ _ _
      | exact spec_PrimeIs.mono _ _
      | exact LeO.none _
      | refine LeO.ite ?_ ?_
      | refine LeO.bind ?_ (fun _ => ?_)
    · intro y0 y1 y2 y3 y4 y5
      unfold spec_SymbolModulo.l0
      repeat' first
      | (with_reducible exact ih0 _ _ _ _ _)
      | (with_reducible exact ih1 _ _ _ _ _ _)
      | (with_reducible exact ih2 _ _ _ _ _)
      | (with_reducible exact ih3 _ _ _ _ _ _)
      | (with_reducible exact ih4 _ _ _ _ _ _ _)
      | (with_reducible exact spec_PrimeIs.mono _ _)
      | (with_reducible exact LeO.refl _)
      | (with_reducible exact LeO.none _)
      | (with_reducible refine LeO.ite ?_ ?_)
      | (with_reducible refine LeO.bind ?_ (fun _ => ?_))
      | exact ih0 _ _ _ _ _
      | exact ih1 _ _ _ _ _ _
      | exact ih2 _ _ _ _ _
      | exact ih3 _ _ _ _ _ _
      | exact ih4 _ _ _ _ _ _ _
      | exact spec_PrimeIs.mono _ _
      | exact LeO.none _
      | refine LeO.ite ?_ ?_
      | refine LeO.bind ?_ (fun _ => ?_)
    · intro y0 y1 y2 y3 y4
      unfold spec_SymbolModulo.l1
      repeat' first
      | (with_reducible exact ih0 _ _ _ _ _)
      | (with_reducible exact ih1 _ _ _ _ _ _)
      | (with_reducible exact ih2 _ _ _ _ _)
      | (with_reducible exact ih3 _ _ _ _ _ _)
      | (with_reducible exact ih4 _ _ _ _ _ _ _)
      | (with_reducible exact spec_PrimeIs.mono _ _)
      | (with_reducible exact LeO.refl _)
      | (with_reducible exact LeO.none _)
      | (with_reducible refine LeO.ite ?_ ?_)
      | (with_reducible refine LeO.bind ?_ (fun _ => ?_))
      | exact ih0 _ _ _ _ _
      | exact ih1 _ _ _ _ _ _
      | exact ih2 _ _ _ _ _
      | exact ih3 _ _ _ _ _ _
      | exact ih4 _ _ _ _ _ _ _
      | exact spec_PrimeIs.mono _ _
      | exact LeO.none _
      | refine LeO.ite ?_ ?_
      | refine LeO.bind ?_ (fun _ => ?_)
    · intro y0 y1 y2 y3 y4 y5
      unfold spec_SymbolModulo.l2
      repeat' first
      | (with_reducible exact ih0 _ _ _ _ _)
      | (with_reducible exact ih1 _ _ _ _ _ _)
      | (with_reducible exact ih2 _ _ _ _ _)
      | (with_reducible exact ih3 _ _ _ _ _ _)
      | (with_reducible exact ih4 _ _ _ _ _ _ _)
      | (with_reducible exact spec_PrimeIs.mono _ _)
      | (with_reducible exact LeO.refl _)
      | (with_reducible exact LeO.none _)
      | (with_reducible refine LeO.ite ?_ ?_)
      | (with_reducible refine LeO.bind ?_ (fun _ => ?_))
      | exact ih0 _ _ _ _ _
      | exact ih1 _ _ _ _ _ _
      | exact ih2 _ _ _ _ _
      | exact ih3 _ _ _ _ _ _
      | exact ih4 _ _ _ _ _ _ _
      | exact spec_PrimeIs.mono _ _
      | exact LeO.none _
      | refine LeO.ite ?_ ?_
      | refine LeO.bind ?_ (fun _ => ?_)
    · intro y0 y1 y2 y3 y4 y5 y6
      unfold spec_SymbolModulo.l3
      repeat' first
      | (with_reducible exact ih0 _ _ _ _ _)
      | (with_reducible exact ih1 _ _ _ _ _ _)
      | (with_reducible exact ih2 _ _ _ _ _)
      | (with_reducible exact ih3 _ _ _ _ _ _)
      | (with_reducible exact ih4 _ _ _ _ _ _ _)
      | (with_reducible exact spec_PrimeIs.mono _ _)
      | (with_reducible exact LeO.refl _)
      | (with_reducible exact LeO.none _)
      | (with_reducible refine LeO.ite ?_ ?_)
      | (with_reducible refine LeO.bind ?_ (fun _ => ?_))
      | exact ih0 _ _ _ _ _
      | exact ih1 _ _ _ _ _ _
      | exact ih2 _ _ _ _ _
      | exact ih3 _ _ _ _ _ _
      | exact ih4 _ _ _ _ _ _ _
      | exact spec_PrimeIs.mono _ _
      | exact LeO.none _
      | refine LeO.ite ?_ ?_
      | refine LeO.bind ?_ (fun _ => ?_)
theorem spec_SymbolModulo.mono : ∀ a0 a1 a2 a3 k, LeO (spec_SymbolModulo.f k a0 a1 a2 a3) (spec_SymbolModulo.f (k + 1) a0 a1 a2 a3) := by
  intro a0 a1 a2 a3 k
  obtain ⟨ih0, ih1, ih2, ih3, ih4⟩ := spec_SymbolModulo.mono_l k
  unfold spec_SymbolModulo.f
  repeat' first
      | (with_reducible exact ih0 _ _ _ _ _)
      | (with_reducible exact ih1 _ _ _ _ _ _)
      | (with_reducible exact ih2 _ _ _ _ _)
      | (with_reducible exact ih3 _ _ _ _ _ _)
      | (with_reducible exact ih4 _ _ _ _ _ _ _)
      | (with_reducible exact spec_PrimeIs.mono _ _)
      | (with_reducible exact LeO.refl _)
      | (with_reducible exact LeO.none _)
      | (with_reducible refine LeO.ite ?_ ?_)
      | (with_reducible refine LeO.bind ?_ (fun _ => ?_))
      | exact ih0 _ _ _ _ _
      | exact ih1 _ _ _ _ _ _
      | exact ih2 _ _ _ _ _
      | exact ih3 _ _ _ _ _ _
      | exact ih4 _ _ _ _ _ _ _
      | exact spec_PrimeIs.mono _ _
      | exact LeO.none _
      | refine LeO.ite ?_ ?_
      | refine LeO.bind ?_ (fun _ => ?_)
set_option maxHeartbeats 8000000 in
set_option maxRecDepth 100000 in
theorem spec_SymbolModulo.calls (k : Nat) (a0 : Int) (a1 : Int) (a2 : Int) (a3 : Int) (r : Bool) (w : World) (h : spec_SymbolModulo.f k a0 a1 a2 a3 = some r) :
    Calls Try.prog 35 #[.int .i64 a0, .int .i64 a1, .int .i64 a2, .int .i64 a3] w fun e w' => e = .returned (.bool r) ∧ Drawn0 w w' := by
  have H : ((spec_l3Ok.f a0 a1).bind fun t105 => (if t105 = true then ((spec_PrimeIs.f k a2).bind fun t106 => (if t106 = true then (if a2 > 31 then (spec_SymbolModulo.j0 k a0 a1 a2 a3 true) else ((spec_l6In.f a3 1 5).bind fun t107 => (spec_SymbolModulo.j0 k a0 a1 a2 a3 (!t107)))) else (spec_SymbolModulo.j0 k a0 a1 a2 a3 true))) else (spec_SymbolModulo.j0 k a0 a1 a2 a3 true))) = some r := h
  clear h
  have HC5 := Aside0.mk H
  clear H
  go_enter Try.func35, Try.ntmps35
  go_upto_region 1 with (fail)
  go_cut [31] (fun v31 wc => ∃ (kq : Nat) (x31_4 : Bool), v31 = .bool x31_4 ∧ Aside0 (spec_SymbolModulo.j0 kq a0 a1 a2 a3 x31_4 = some r) ∧ Aside0 (kq ≤ k) ∧ Drawn0 w wc)
  case first =>
    have H := HC5.out
    clear HC5
    replace H := Option.bind_eq_some_iff.mp H
    obtain ⟨t105, A60, H⟩ := H
    replace H : (if t105 = true then ((spec_PrimeIs.f k a2).bind fun t106 => (if t106 = true then (if a2 > 31 then (spec_SymbolModulo.j0 k a0 a1 a2 a3 true) else ((spec_l6In.f a3 1 5).bind fun t107 => (spec_SymbolModulo.j0 k a0 a1 a2 a3 (!t107)))) else (spec_SymbolModulo.j0 k a0 a1 a2 a3 true))) else (spec_SymbolModulo.j0 k a0 a1 a2 a3 true)) = some r := H
    have A6 := Aside0.mk A60
    clear A60
    by_cases c7 : t105 = true
    · subst c7
      have H1 : ((spec_PrimeIs.f k a2).bind fun t106 => (if t106 = true then (if a2 > 31 then (spec_SymbolModulo.j0 k a0 a1 a2 a3 true) else ((spec_l6In.f a3 1 5).bind fun t107 => (spec_SymbolModulo.j0 k a0 a1 a2 a3 (!t107)))) else (spec_SymbolModulo.j0 k a0 a1 a2 a3 true))) = some r := by rw [if_pos rfl] at H; exact H
      clear H
      have H := H1
      clear H1
      replace H := Option.bind_eq_some_iff.mp H
      obtain ⟨t106, A80, H⟩ := H
      replace H : (if t106 = true then (if a2 > 31 then (spec_SymbolModulo.j0 k a0 a1 a2 a3 true) else ((spec_l6In.f a3 1 5).bind fun t107 => (spec_SymbolModulo.j0 k a0 a1 a2 a3 (!t107)))) else (spec_SymbolModulo.j0 k a0 a1 a2 a3 true)) = some r := H
      have A8 := Aside0.mk A80
      clear A80
      by_cases c9 : t106 = true
      · subst c9
        have H1 : (if a2 > 31 then (spec_SymbolModulo.j0 k a0 a1 a2 a3 true) else ((spec_l6In.f a3 1 5).bind fun t107 => (spec_SymbolModulo.j0 k a0 a1 a2 a3 (!t107)))) = some r := by rw [if_pos rfl] at H; exact H
        clear H
        have H := H1
        clear H1
        by_cases c10 : a2 > 31
        · rw [if_pos c10] at H
          have c10b0 : decide (31 < a2) = true := decide_eq_true c10
          clear c10
          (first | rw [c10b0] | (simp only [i64_w, i32_w]; rw [c10b0]) | skip)
          have H' := Aside0.mk H
          clear H
          go_wp2_with (first | ((with_reducible refine gate_callee (f := 60) rfl ?_); refine goesL_ (some 16) rfl rfl Try.func60 (by kernel_rfl) rfl #[.int .i64 a0, .int .i64 a1] rfl (by (try simp only [List.map_toArray, List.map_cons, List.map_nil]); first | done | rfl | (simp only [List.length_drop, List.length_take]; rfl)) ?_; (with_reducible refine (spec_l3Ok.calls a0 a1 true _ A6.out).mono ?_); rintro e w' ⟨rfl, ⟨nd, rfl⟩⟩; refine ⟨_, rfl, ?_⟩) | (go_at_call 61; (with_reducible refine (spec_PrimeIs.calls k a2 true _ A8.out).mono ?_); rintro e w' ⟨rfl, ⟨nd, rfl⟩⟩))
          go_meet
          case rel => exact ⟨_, (true), (by first | rfl | (simp; done) | (simp [*]; done)), H', ⟨by first | omega | exact Nat.le_refl _⟩, by repeat (first | exact Drawn0.refl _ | apply Drawn0.step)⟩
        · rw [if_neg c10] at H
          have c10b0 : decide (31 < a2) = false := decide_eq_false c10
          clear c10
          (first | rw [c10b0] | (simp only [i64_w, i32_w]; rw [c10b0]) | skip)
          replace H := Option.bind_eq_some_iff.mp H
          obtain ⟨t107, A110, H⟩ := H
          replace H : (spec_SymbolModulo.j0 k a0 a1 a2 a3 (!t107)) = some r := H
          have A11 := Aside0.mk A110
          clear A110
          have H' := Aside0.mk H
          clear H
          go_wp2_with (first | ((with_reducible refine gate_callee (f := 60) rfl ?_); refine goesL_ (some 16) rfl rfl Try.func60 (by kernel_rfl) rfl #[.int .i64 a0, .int .i64 a1] rfl (by (try simp only [List.map_toArray, List.map_cons, List.map_nil]); first | done | rfl | (simp only [List.length_drop, List.length_take]; rfl)) ?_; (with_reducible refine (spec_l3Ok.calls a0 a1 true _ A6.out).mono ?_); rintro e w' ⟨rfl, ⟨nd, rfl⟩⟩; refine ⟨_, rfl, ?_⟩) | (go_at_call 61; (with_reducible refine (spec_PrimeIs.calls k a2 true _ A8.out).mono ?_); rintro e w' ⟨rfl, ⟨nd, rfl⟩⟩) | (go_at_call 70; (with_reducible refine (spec_l6In.calls a3 1 5 t107 _ A11.out).mono ?_); rintro e w' ⟨rfl, ⟨nd, rfl⟩⟩))
          go_meet
          case rel => exact ⟨_, (!t107), (by first | rfl | (simp; done) | (simp [*]; done)), H', ⟨by first | omega | exact Nat.le_refl _⟩, by repeat (first | exact Drawn0.refl _ | apply Drawn0.step)⟩
      · replace c9 := Bool.eq_false_iff.mpr c9
        subst c9
        have H1 : (spec_SymbolModulo.j0 k a0 a1 a2 a3 true) = some r := by rw [if_neg (show ¬ (false = true) by decide)] at H; exact H
        clear H
        have H := H1
        clear H1
        have H' := Aside0.mk H
        clear H
        go_wp2_with (first | ((with_reducible refine gate_callee (f := 60) rfl ?_); refine goesL_ (some 16) rfl rfl Try.func60 (by kernel_rfl) rfl #[.int .i64 a0, .int .i64 a1] rfl (by (try simp only [List.map_toArray, List.map_cons, List.map_nil]); first | done | rfl | (simp only [List.length_drop, List.length_take]; rfl)) ?_; (with_reducible refine (spec_l3Ok.calls a0 a1 true _ A6.out).mono ?_); rintro e w' ⟨rfl, ⟨nd, rfl⟩⟩; refine ⟨_, rfl, ?_⟩) | (go_at_call 61; (with_reducible refine (spec_PrimeIs.calls k a2 false _ A8.out).mono ?_); rintro e w' ⟨rfl, ⟨nd, rfl⟩⟩))
        go_meet
        case rel => exact ⟨_, (true), (by first | rfl | (simp; done) | (simp [*]; done)), H', ⟨by first | omega | exact Nat.le_refl _⟩, by repeat (first | exact Drawn0.refl _ | apply Drawn0.step)⟩
    · replace c7 := Bool.eq_false_iff.mpr c7
      subst c7
      have H1 : (spec_SymbolModulo.j0 k a0 a1 a2 a3 true) = some r := by rw [if_neg (show ¬ (false = true) by decide)] at H; exact H
      clear H
      have H := H1
      clear H1
      have H' := Aside0.mk H
      clear H
      go_wp2_with (first | ((with_reducible refine gate_callee (f := 60) rfl ?_); refine goesL_ (some 16) rfl rfl Try.func60 (by kernel_rfl) rfl #[.int .i64 a0, .int .i64 a1] rfl (by (try simp only [List.map_toArray, List.map_cons, List.map_nil]); first | done | rfl | (simp only [List.length_drop, List.length_take]; rfl)) ?_; (with_reducible refine (spec_l3Ok.calls a0 a1 false _ A6.out).mono ?_); rintro e w' ⟨rfl, ⟨nd, rfl⟩⟩; refine ⟨_, rfl, ?_⟩))
      go_meet
      case rel => exact ⟨_, (true), (by first | rfl | (simp; done) | (simp [*]; done)), H', ⟨by first | omega | exact Nat.le_refl _⟩, by repeat (first | exact Drawn0.refl _ | apply Drawn0.step)⟩
  case rest =>
    clear HC5
    try clear c1
    try clear p2
    try clear c3
    try clear c6
    try clear c7
    try clear c9
    try clear c10
    try clear c10b0
    obtain ⟨kq, x31_4, rfl, HA, HJ4, ⟨mc4, rfl⟩⟩ := hcut
    cases kq with
    | zero => exact absurd HA.out (by simp [spec_SymbolModulo.j0])
    | succ kj4 =>
      have H := HA.out
      clear HA
      simp only [spec_SymbolModulo.j0] at H
      by_cases c12 : x31_4 = true
      · subst c12
        have H1 : (some false) = some r := by rw [if_pos rfl] at H; exact H
        clear H
        have H := H1
        clear H1
        obtain rfl := Option.some.inj H
        go_wp2
        go_ret
        exact ⟨by first | rfl | (simp; done) | (simp [*]; done), by repeat (first | exact Drawn0.refl _ | apply Drawn0.step)⟩
      · replace c12 := Bool.eq_false_iff.mpr c12
        subst c12
        have H1 : (spec_SymbolModulo.l0 kj4 a0 a1 a2 a3 1 0) = some r := by rw [if_neg (show ¬ (false = true) by decide)] at H; exact H
        clear H
        have H := H1
        clear H1
        have H' := Aside0.mk H
        clear H
        go_wp2
        go_loopg [9, 10] kj4 (fun kq v9 v10 w' => ∃ (x9_2 : Int) (x10_2 : Int), v9 = .int .i64 x9_2 ∧ v10 = .int .i64 x10_2 ∧ Aside0 (spec_SymbolModulo.l0 kq a0 a1 a2 a3 x9_2 x10_2 = some r) ∧ Aside0 (kq ≤ kj4) ∧ Drawn0 w w')
        case atStart => exact ⟨(1), (0), (by first | rfl | (simp; done) | (simp [*]; done)), (by first | rfl | (simp; done) | (simp [*]; done)), H', ⟨Nat.le_refl _⟩, by repeat (first | exact Drawn0.refl _ | apply Drawn0.step)⟩
        case round =>
          clear H'
          try clear c1
          try clear p2
          try clear c3
          try clear c4
          try clear c6
          try clear c7
          try clear c9
          try clear c10
          try clear c10b0
          try clear c12
          try clear p2
          obtain ⟨x9_2, x10_2, rfl, rfl, HA, HK2, ⟨m2, rfl⟩⟩ := hrel
          cases gk with
          | zero => exact absurd HA.out (by simp [spec_SymbolModulo.l0])
          | succ k2 =>
            have H := HA.out
            clear HA
            simp only [spec_SymbolModulo.l0] at H
            by_cases c13 : x10_2 < a3
            · rw [if_pos c13] at H
              have c13b0 : decide (x10_2 < a3) = true := decide_eq_true c13
              clear c13
              have H' := Aside0.mk H
              clear H
              go_wp2
              go_roundg k2
              case measure => have := HJ4.out; have := HK2.out; omega
              case rel => exact ⟨(wrap64 (x9_2 * a2)), (wrap64 (x10_2 + 1)), (by first | rfl | (simp; done) | (simp [*]; done)), (by first | rfl | (simp; done) | (simp [*]; done)), H', ⟨by have := HJ4.out; have := HK2.out; omega⟩, by repeat (first | exact Drawn0.refl _ | apply Drawn0.step)⟩
            · rw [if_neg c13] at H
              have c13b0 : decide (x10_2 < a3) = false := decide_eq_false c13
              clear c13
              by_cases c14 : x9_2 > 32
              · rw [if_pos c14] at H
                have c14b0 : decide (32 < x9_2) = true := decide_eq_true c14
                clear c14
                obtain rfl := Option.some.inj H
                go_wp2
                go_ret
                exact ⟨by first | rfl | (simp; done) | (simp [*]; done), by repeat (first | exact Drawn0.refl _ | apply Drawn0.step)⟩
              · rw [if_neg c14] at H
                have c14b0 : decide (32 < x9_2) = false := decide_eq_false c14
                clear c14
                have H' := Aside0.mk H
                clear H
                go_wp2
                go_loopg [11] k2 (fun kq v11 w' => ∃ (x11_3 : Int), v11 = .int .i64 x11_3 ∧ Aside0 (spec_SymbolModulo.l1 kq a0 a1 a2 x9_2 x11_3 = some r) ∧ Aside0 (kq ≤ k2) ∧ Drawn0 w w')
                case atStart => exact ⟨(0), (by first | rfl | (simp; done) | (simp [*]; done)), H', ⟨Nat.le_refl _⟩, by repeat (first | exact Drawn0.refl _ | apply Drawn0.step)⟩
                case round =>
                  clear H'
                  try clear c1
                  try clear p2
                  try clear c3
                  try clear c4
                  try clear c6
                  try clear p6
                  try clear c7
                  try clear c9
                  try clear c10
                  try clear c10b0
                  try clear c12
                  try clear c13
                  try clear c13b0
                  try clear c14
                  try clear c14b0
                  try clear p2
                  obtain ⟨x11_3, rfl, HA, HK3, ⟨m3, rfl⟩⟩ := hrel
                  cases gk with
                  | zero => exact absurd HA.out (by simp [spec_SymbolModulo.l1])
                  | succ k3 =>
                    have H := HA.out
                    clear HA
                    simp only [spec_SymbolModulo.l1] at H
                    by_cases c15 : x11_3 < x9_2
                    · rw [if_pos c15] at H
                      have c15b0 : decide (x11_3 < x9_2) = true := decide_eq_true c15
                      clear c15
                      have H' := Aside0.mk H
                      clear H
                      go_wp2
                      go_loopg [12] k3 (fun kq v12 w' => ∃ (x12_4 : Int), v12 = .int .i64 x12_4 ∧ Aside0 (spec_SymbolModulo.l2 kq a0 a1 a2 x9_2 x11_3 x12_4 = some r) ∧ Aside0 (kq ≤ k3) ∧ Drawn0 w w')
                      case atStart => exact ⟨(0), (by first | rfl | (simp; done) | (simp [*]; done)), H', ⟨Nat.le_refl _⟩, by repeat (first | exact Drawn0.refl _ | apply Drawn0.step)⟩
                      case round =>
                        clear H'
                        try clear c1
                        try clear p2
                        try clear c3
                        try clear c4
                        try clear c6
                        try clear p6
                        try clear c7
                        try clear c9
                        try clear c10
                        try clear c10b0
                        try clear c12
                        try clear c13
                        try clear c13b0
                        try clear c14
                        try clear c14b0
                        try clear c15
                        try clear c15b0
                        try clear p2
                        try clear p6
                        obtain ⟨x12_4, rfl, HA, HK4, ⟨m4, rfl⟩⟩ := hrel
                        cases gk with
                        | zero => exact absurd HA.out (by simp [spec_SymbolModulo.l2])
                        | succ k4 =>
                          have H := HA.out
                          clear HA
                          simp only [spec_SymbolModulo.l2] at H
                          by_cases c16 : x12_4 < x9_2
                          · rw [if_pos c16] at H
                            have c16b0 : decide (x12_4 < x9_2) = true := decide_eq_true c16
                            clear c16
                            have H' := Aside0.mk H
                            clear H
                            go_wp2
                            go_loopg [13] k4 (fun kq v13 w' => ∃ (x13_5 : Int), v13 = .int .i64 x13_5 ∧ Aside0 (spec_SymbolModulo.l3 kq a0 a1 a2 x9_2 x11_3 x12_4 x13_5 = some r) ∧ Aside0 (kq ≤ k4) ∧ Drawn0 w w')
                            case atStart => exact ⟨(0), (by first | rfl | (simp; done) | (simp [*]; done)), H', ⟨Nat.le_refl _⟩, by repeat (first | exact Drawn0.refl _ | apply Drawn0.step)⟩
                            case round =>
                              clear H'
                              try clear c1
                              try clear p2
                              try clear c3
                              try clear c4
                              try clear c6
                              try clear p6
                              try clear c7
                              try clear c9
                              try clear c10
                              try clear c10b0
                              try clear c12
                              try clear c13
                              try clear c13b0
                              try clear c14
                              try clear c14b0
                              try clear c15
                              try clear c15b0
                              try clear c16
                              try clear c16b0
                              try clear p2
                              try clear p6
                              obtain ⟨x13_5, rfl, HA, HK5, ⟨m5, rfl⟩⟩ := hrel
                              cases gk with
                              | zero => exact absurd HA.out (by simp [spec_SymbolModulo.l3])
                              | succ k5 =>
                                have H := HA.out
                                clear HA
                                simp only [spec_SymbolModulo.l3] at H
                                by_cases c17 : x13_5 < x9_2
                                · rw [if_pos c17] at H
                                  have c17b0 : decide (x13_5 < x9_2) = true := decide_eq_true c17
                                  clear c17
                                  by_cases c18 : a2 = 0
                                  · rw [if_pos c18] at H
                                    exact absurd H (by simp)
                                  · rw [if_neg c18] at H
                                    have c18b0 : (a2 == 0) = false := beq_eq_false_iff_ne.mpr c18
                                    have c18b1 : (a2 != 0) = true := bne_iff_ne.mpr c18
                                    by_cases c19 : (Int.tmod x11_3 a2) = 0
                                    · rw [if_pos c19] at H
                                      have c19b0 : ((Int.tmod x11_3 a2) == 0) = true := beq_iff_eq.mpr c19
                                      have c19b1 : ((Int.tmod x11_3 a2) != 0) = false := bne_eq_false_iff_eq.mpr c19
                                      clear c19
                                      by_cases c20 : (Int.tmod x12_4 a2) = 0
                                      · rw [if_pos c20] at H
                                        have c20b0 : ((Int.tmod x12_4 a2) == 0) = true := beq_iff_eq.mpr c20
                                        have c20b1 : ((Int.tmod x12_4 a2) != 0) = false := bne_eq_false_iff_eq.mpr c20
                                        clear c20
                                        by_cases c21 : (Int.tmod x13_5 a2) = 0
                                        · rw [if_pos c21] at H
                                          have c21b0 : ((Int.tmod x13_5 a2) == 0) = true := beq_iff_eq.mpr c21
                                          have c21b1 : ((Int.tmod x13_5 a2) != 0) = false := bne_eq_false_iff_eq.mpr c21
                                          clear c21
                                          have H' := Aside0.mk H
                                          clear H
                                          go_wp2
                                          go_roundg k5
                                          case measure => have := HJ4.out; have := HK2.out; have := HK3.out; have := HK4.out; have := HK5.out; omega
                                          case rel => exact ⟨(wrap64 (x13_5 + 1)), (by first | rfl | (simp; done) | (simp [*]; done)), H', ⟨by have := HJ4.out; have := HK2.out; have := HK3.out; have := HK4.out; have := HK5.out; omega⟩, by repeat (first | exact Drawn0.refl _ | apply Drawn0.step)⟩
                                        · rw [if_neg c21] at H
                                          have c21b0 : ((Int.tmod x13_5 a2) == 0) = false := beq_eq_false_iff_ne.mpr c21
                                          have c21b1 : ((Int.tmod x13_5 a2) != 0) = true := bne_iff_ne.mpr c21
                                          replace H := Option.bind_eq_some_iff.mp H
                                          obtain ⟨t108, A220, H⟩ := H
                                          replace H : (if t108 = 0 then (some true) else (spec_SymbolModulo.l3 k5 a0 a1 a2 x9_2 x11_3 x12_4 (wrap64 (x13_5 + 1)))) = some r := H
                                          have A22 := Aside0.mk A220
                                          clear A220
                                          by_cases c23 : t108 = 0
                                          · rw [if_pos c23] at H
                                            have c23b0 : (t108 == 0) = true := beq_iff_eq.mpr c23
                                            have c23b1 : (t108 != 0) = false := bne_eq_false_iff_eq.mpr c23
                                            clear c23
                                            obtain rfl := Option.some.inj H
                                            go_wp2_with (first | (go_at_call 62; (with_reducible refine (spec_l1Mod.calls (wrap64 ((wrap64 ((wrap64 ((wrap64 (a0 * x11_3)) * x11_3)) + (wrap64 ((wrap64 (a1 * x12_4)) * x12_4)))) - (wrap64 (x13_5 * x13_5)))) x9_2 t108 _ A22.out).mono ?_); rintro e w' ⟨rfl, ⟨nd, rfl⟩⟩))
                                            go_ret
                                            exact ⟨by first | rfl | (simp; done) | (simp [*]; done), by repeat (first | exact Drawn0.refl _ | apply Drawn0.step)⟩
                                          · rw [if_neg c23] at H
                                            have c23b0 : (t108 == 0) = false := beq_eq_false_iff_ne.mpr c23
                                            have c23b1 : (t108 != 0) = true := bne_iff_ne.mpr c23
                                            have H' := Aside0.mk H
                                            clear H
                                            go_wp2_with (first | (go_at_call 62; (with_reducible refine (spec_l1Mod.calls (wrap64 ((wrap64 ((wrap64 ((wrap64 (a0 * x11_3)) * x11_3)) + (wrap64 ((wrap64 (a1 * x12_4)) * x12_4)))) - (wrap64 (x13_5 * x13_5)))) x9_2 t108 _ A22.out).mono ?_); rintro e w' ⟨rfl, ⟨nd, rfl⟩⟩))
                                            go_roundg k5
                                            case measure => have := HJ4.out; have := HK2.out; have := HK3.out; have := HK4.out; have := HK5.out; omega
                                            case rel => exact ⟨(wrap64 (x13_5 + 1)), (by first | rfl | (simp; done) | (simp [*]; done)), H', ⟨by have := HJ4.out; have := HK2.out; have := HK3.out; have := HK4.out; have := HK5.out; omega⟩, by repeat (first | exact Drawn0.refl _ | apply Drawn0.step)⟩
                                      · rw [if_neg c20] at H
                                        have c20b0 : ((Int.tmod x12_4 a2) == 0) = false := beq_eq_false_iff_ne.mpr c20
                                        have c20b1 : ((Int.tmod x12_4 a2) != 0) = true := bne_iff_ne.mpr c20
                                        replace H := Option.bind_eq_some_iff.mp H
                                        obtain ⟨t109, A240, H⟩ := H
                                        replace H : (if t109 = 0 then (some true) else (spec_SymbolModulo.l3 k5 a0 a1 a2 x9_2 x11_3 x12_4 (wrap64 (x13_5 + 1)))) = some r := H
                                        have A24 := Aside0.mk A240
                                        clear A240
                                        by_cases c25 : t109 = 0
                                        · rw [if_pos c25] at H
                                          have c25b0 : (t109 == 0) = true := beq_iff_eq.mpr c25
                                          have c25b1 : (t109 != 0) = false := bne_eq_false_iff_eq.mpr c25
                                          clear c25
                                          obtain rfl := Option.some.inj H
                                          go_wp2_with (first | (go_at_call 62; (with_reducible refine (spec_l1Mod.calls (wrap64 ((wrap64 ((wrap64 ((wrap64 (a0 * x11_3)) * x11_3)) + (wrap64 ((wrap64 (a1 * x12_4)) * x12_4)))) - (wrap64 (x13_5 * x13_5)))) x9_2 t109 _ A24.out).mono ?_); rintro e w' ⟨rfl, ⟨nd, rfl⟩⟩))
                                          go_ret
                                          exact ⟨by first | rfl | (simp; done) | (simp [*]; done), by repeat (first | exact Drawn0.refl _ | apply Drawn0.step)⟩
                                        · rw [if_neg c25] at H
                                          have c25b0 : (t109 == 0) = false := beq_eq_false_iff_ne.mpr c25
                                          have c25b1 : (t109 != 0) = true := bne_iff_ne.mpr c25
                                          have H' := Aside0.mk H
                                          clear H
                                          go_wp2_with (first | (go_at_call 62; (with_reducible refine (spec_l1Mod.calls (wrap64 ((wrap64 ((wrap64 ((wrap64 (a0 * x11_3)) * x11_3)) + (wrap64 ((wrap64 (a1 * x12_4)) * x12_4)))) - (wrap64 (x13_5 * x13_5)))) x9_2 t109 _ A24.out).mono ?_); rintro e w' ⟨rfl, ⟨nd, rfl⟩⟩))
                                          go_roundg k5
                                          case measure => have := HJ4.out; have := HK2.out; have := HK3.out; have := HK4.out; have := HK5.out; omega
                                          case rel => exact ⟨(wrap64 (x13_5 + 1)), (by first | rfl | (simp; done) | (simp [*]; done)), H', ⟨by have := HJ4.out; have := HK2.out; have := HK3.out; have := HK4.out; have := HK5.out; omega⟩, by repeat (first | exact Drawn0.refl _ | apply Drawn0.step)⟩
                                    · rw [if_neg c19] at H
                                      have c19b0 : ((Int.tmod x11_3 a2) == 0) = false := beq_eq_false_iff_ne.mpr c19
                                      have c19b1 : ((Int.tmod x11_3 a2) != 0) = true := bne_iff_ne.mpr c19
                                      replace H := Option.bind_eq_some_iff.mp H
                                      obtain ⟨t110, A260, H⟩ := H
                                      replace H : (if t110 = 0 then (some true) else (spec_SymbolModulo.l3 k5 a0 a1 a2 x9_2 x11_3 x12_4 (wrap64 (x13_5 + 1)))) = some r := H
                                      have A26 := Aside0.mk A260
                                      clear A260
                                      by_cases c27 : t110 = 0
                                      · rw [if_pos c27] at H
                                        have c27b0 : (t110 == 0) = true := beq_iff_eq.mpr c27
                                        have c27b1 : (t110 != 0) = false := bne_eq_false_iff_eq.mpr c27
                                        clear c27
                                        obtain rfl := Option.some.inj H
                                        go_wp2_with (first | (go_at_call 62; (with_reducible refine (spec_l1Mod.calls (wrap64 ((wrap64 ((wrap64 ((wrap64 (a0 * x11_3)) * x11_3)) + (wrap64 ((wrap64 (a1 * x12_4)) * x12_4)))) - (wrap64 (x13_5 * x13_5)))) x9_2 t110 _ A26.out).mono ?_); rintro e w' ⟨rfl, ⟨nd, rfl⟩⟩))
                                        go_ret
                                        exact ⟨by first | rfl | (simp; done) | (simp [*]; done), by repeat (first | exact Drawn0.refl _ | apply Drawn0.step)⟩
                                      · rw [if_neg c27] at H
                                        have c27b0 : (t110 == 0) = false := beq_eq_false_iff_ne.mpr c27
                                        have c27b1 : (t110 != 0) = true := bne_iff_ne.mpr c27
                                        have H' := Aside0.mk H
                                        clear H
                                        go_wp2_with (first | (go_at_call 62; (with_reducible refine (spec_l1Mod.calls (wrap64 ((wrap64 ((wrap64 ((wrap64 (a0 * x11_3)) * x11_3)) + (wrap64 ((wrap64 (a1 * x12_4)) * x12_4)))) - (wrap64 (x13_5 * x13_5)))) x9_2 t110 _ A26.out).mono ?_); rintro e w' ⟨rfl, ⟨nd, rfl⟩⟩))
                                        go_roundg k5
                                        case measure => have := HJ4.out; have := HK2.out; have := HK3.out; have := HK4.out; have := HK5.out; omega
                                        case rel => exact ⟨(wrap64 (x13_5 + 1)), (by first | rfl | (simp; done) | (simp [*]; done)), H', ⟨by have := HJ4.out; have := HK2.out; have := HK3.out; have := HK4.out; have := HK5.out; omega⟩, by repeat (first | exact Drawn0.refl _ | apply Drawn0.step)⟩
                                · rw [if_neg c17] at H
                                  have c17b0 : decide (x13_5 < x9_2) = false := decide_eq_false c17
                                  clear c17
                                  have H' := Aside0.mk H
                                  clear H
                                  go_wp2
                                  go_roundg k5
                                  case measure => have := HJ4.out; have := HK2.out; have := HK3.out; have := HK4.out; have := HK5.out; omega
                                  case rel => exact ⟨(wrap64 (x12_4 + 1)), (by first | rfl | (simp; done) | (simp [*]; done)), H', ⟨by have := HJ4.out; have := HK2.out; have := HK3.out; have := HK4.out; have := HK5.out; omega⟩, by repeat (first | exact Drawn0.refl _ | apply Drawn0.step)⟩
                          · rw [if_neg c16] at H
                            have c16b0 : decide (x12_4 < x9_2) = false := decide_eq_false c16
                            clear c16
                            have H' := Aside0.mk H
                            clear H
                            go_wp2
                            go_roundg k4
                            case measure => have := HJ4.out; have := HK2.out; have := HK3.out; have := HK4.out; omega
                            case rel => exact ⟨(wrap64 (x11_3 + 1)), (by first | rfl | (simp; done) | (simp [*]; done)), H', ⟨by have := HJ4.out; have := HK2.out; have := HK3.out; have := HK4.out; omega⟩, by repeat (first | exact Drawn0.refl _ | apply Drawn0.step)⟩
                    · rw [if_neg c15] at H
                      have c15b0 : decide (x11_3 < x9_2) = false := decide_eq_false c15
                      clear c15
                      obtain rfl := Option.some.inj H
                      go_wp2
                      go_ret
                      exact ⟨by first | rfl | (simp; done) | (simp [*]; done), by repeat (first | exact Drawn0.refl _ | apply Drawn0.step)⟩

/-! ### impl_isNumber: function 53 -/
def impl_isNumber.f (a0 : Int) : Option (Bool) := if a0 ≥ (-5000) then (some (decide (a0 ≤ 5000))) else (some false)
set_option maxHeartbeats 8000000 in
set_option maxRecDepth 100000 in
theorem impl_isNumber.calls (a0 : Int) (r : Bool) (w : World) (h : impl_isNumber.f a0 = some r) :
    Calls Try.prog 53 #[.int .i64 a0] w fun e w' => e = .returned (.bool r) ∧ Drawn0 w w' := by
  have H : (if a0 ≥ (-5000) then (some (decide (a0 ≤ 5000))) else (some false)) = some r := h
  clear h
  by_cases c2 : a0 ≥ (-5000)
  · rw [if_pos c2] at H
    have c2b0 : decide ((-5000) ≤ a0) = true := decide_eq_true c2
    clear c2
    obtain rfl := Option.some.inj H
    go_enter Try.func53, Try.ntmps53
    go_wp2
    go_ret
    exact ⟨by first | rfl | (simp; done) | (simp [*]; done), by repeat (first | exact Drawn0.refl _ | apply Drawn0.step)⟩
  · rw [if_neg c2] at H
    have c2b0 : decide ((-5000) ≤ a0) = false := decide_eq_false c2
    clear c2
    obtain rfl := Option.some.inj H
    go_enter Try.func53, Try.ntmps53
    go_wp2
    go_ret
    exact ⟨by first | rfl | (simp; done) | (simp [*]; done), by repeat (first | exact Drawn0.refl _ | apply Drawn0.step)⟩

/-! ### impl_bothNumbers: function 63 -/
def impl_bothNumbers.f (a0 : Int) (a1 : Int) : Option (Bool) := if a0 = 0 then (some false) else (if a1 = 0 then (some false) else ((impl_isNumber.f a0).bind fun t111 => (if t111 = true then ((impl_isNumber.f a1).bind fun t112 => (some t112)) else (some false))))
set_option maxHeartbeats 8000000 in
set_option maxRecDepth 100000 in
theorem impl_bothNumbers.calls (a0 : Int) (a1 : Int) (r : Bool) (w : World) (h : impl_bothNumbers.f a0 a1 = some r) :
    Calls Try.prog 63 #[.int .i64 a0, .int .i64 a1] w fun e w' => e = .returned (.bool r) ∧ Drawn0 w w' := by
  have H : (if a0 = 0 then (some false) else (if a1 = 0 then (some false) else ((impl_isNumber.f a0).bind fun t111 => (if t111 = true then ((impl_isNumber.f a1).bind fun t112 => (some t112)) else (some false))))) = some r := h
  clear h
  by_cases c3 : a0 = 0
  · rw [if_pos c3] at H
    have c3b0 : (a0 == 0) = true := beq_iff_eq.mpr c3
    have c3b1 : (a0 != 0) = false := bne_eq_false_iff_eq.mpr c3
    clear c3
    obtain rfl := Option.some.inj H
    go_enter Try.func63, Try.ntmps63
    go_wp2
    go_ret
    exact ⟨by first | rfl | (simp; done) | (simp [*]; done), by repeat (first | exact Drawn0.refl _ | apply Drawn0.step)⟩
  · rw [if_neg c3] at H
    have c3b0 : (a0 == 0) = false := beq_eq_false_iff_ne.mpr c3
    have c3b1 : (a0 != 0) = true := bne_iff_ne.mpr c3
    by_cases c4 : a1 = 0
    · rw [if_pos c4] at H
      have c4b0 : (a1 == 0) = true := beq_iff_eq.mpr c4
      have c4b1 : (a1 != 0) = false := bne_eq_false_iff_eq.mpr c4
      clear c4
      obtain rfl := Option.some.inj H
      go_enter Try.func63, Try.ntmps63
      go_wp2
      go_ret
      exact ⟨by first | rfl | (simp; done) | (simp [*]; done), by repeat (first | exact Drawn0.refl _ | apply Drawn0.step)⟩
    · rw [if_neg c4] at H
      have c4b0 : (a1 == 0) = false := beq_eq_false_iff_ne.mpr c4
      have c4b1 : (a1 != 0) = true := bne_iff_ne.mpr c4
      replace H := Option.bind_eq_some_iff.mp H
      obtain ⟨t111, A50, H⟩ := H
      replace H : (if t111 = true then ((impl_isNumber.f a1).bind fun t112 => (some t112)) else (some false)) = some r := H
      have A5 := Aside0.mk A50
      clear A50
      by_cases c6 : t111 = true
      · subst c6
        have H1 : ((impl_isNumber.f a1).bind fun t112 => (some t112)) = some r := by rw [if_pos rfl] at H; exact H
        clear H
        have H := H1
        clear H1
        replace H := Option.bind_eq_some_iff.mp H
        obtain ⟨t112, A70, H⟩ := H
        replace H : (some t112) = some r := H
        have A7 := Aside0.mk A70
        clear A70
        obtain rfl := Option.some.inj H
        go_enter Try.func63, Try.ntmps63
        go_wp2_with (first | (go_at_call 53; (with_reducible refine (impl_isNumber.calls a0 true _ A5.out).mono ?_); rintro e w' ⟨rfl, ⟨nd, rfl⟩⟩) | (go_at_call 53; (with_reducible refine (impl_isNumber.calls a1 t112 _ A7.out).mono ?_); rintro e w' ⟨rfl, ⟨nd, rfl⟩⟩))
        go_ret
        exact ⟨by first | rfl | (simp; done) | (simp [*]; done), by repeat (first | exact Drawn0.refl _ | apply Drawn0.step)⟩
      · replace c6 := Bool.eq_false_iff.mpr c6
        subst c6
        have H1 : (some false) = some r := by rw [if_neg (show ¬ (false = true) by decide)] at H; exact H
        clear H
        have H := H1
        clear H1
        obtain rfl := Option.some.inj H
        go_enter Try.func63, Try.ntmps63
        go_wp2_with (first | (go_at_call 53; (with_reducible refine (impl_isNumber.calls a0 false _ A5.out).mono ?_); rintro e w' ⟨rfl, ⟨nd, rfl⟩⟩))
        go_ret
        exact ⟨by first | rfl | (simp; done) | (simp [*]; done), by repeat (first | exact Drawn0.refl _ | apply Drawn0.step)⟩

end Go.Proofs.Ytmepbogcfkecnaa.PFnExactSymbolModulo
