-- PRINTED BY print.sh 35421559b90ae4d0a3588c463048766b98c2df88dd9212a6774a882060cdf62d: not written by this session
import Derived.Test.YtndclhdlkhdlmaaPFnExactSymbolSolvedx0
namespace Go.Proofs.Ytndclhdlkhdlmaa.PFnExactSymbolSolved
open Go.RowKit Go.Proofs.YtndclhdlkhdlmaaW.PrintWords Go.Proofs.YtndclhdlkhdlmaaW.PrintLast Go.Proofs.YtndclhdlkhdlmaaW.PrintMore
attribute [local go_sem] max2_int min2_int max_two min_two max_three min_three max_four min_four   -- for this text's walks alone
set_option linter.unusedVariables false
set_option linter.unusedSimpArgs false

/-! ### spec_l6In: function 41 -/
def spec_l6In.f (a0 : Int) (a1 : Int) (a2 : Int) : Option (Bool) := if a0 ≥ a1 then (some (decide (a0 ≤ a2))) else (some false)
set_option maxHeartbeats 8000000 in
set_option maxRecDepth 100000 in
theorem spec_l6In.calls (a0 : Int) (a1 : Int) (a2 : Int) (r : Bool) (w : World) (h : spec_l6In.f a0 a1 a2 = some r) :
    Calls Try.prog 41 #[.int .i64 a0, .int .i64 a1, .int .i64 a2] w fun e w' => e = .returned (.bool r) ∧ Drawn0 w w' := by
  have H : (if a0 ≥ a1 then (some (decide (a0 ≤ a2))) else (some false)) = some r := h
  clear h
  by_cases c4 : a0 ≥ a1
  · rw [if_pos c4] at H
    have c4b0 : decide (a1 ≤ a0) = true := decide_eq_true c4
    clear c4
    obtain rfl := Option.some.inj H
    go_enter Try.func41, Try.ntmps41
    go_wp2
    go_ret
    exact ⟨by first | rfl | (simp; done) | (simp [*]; done), by repeat (first | exact Drawn0.refl _ | apply Drawn0.step)⟩
  · rw [if_neg c4] at H
    have c4b0 : decide (a1 ≤ a0) = false := decide_eq_false c4
    clear c4
    obtain rfl := Option.some.inj H
    go_enter Try.func41, Try.ntmps41
    go_wp2
    go_ret
    exact ⟨by first | rfl | (simp; done) | (simp [*]; done), by repeat (first | exact Drawn0.refl _ | apply Drawn0.step)⟩

/-! ### spec_l1Number: function 38 -/
def spec_l1Number.f (a0 : Int) : Option (Bool) := (spec_l6In.f a0 (-5000) 5000).bind fun t101 => (some t101)
set_option maxHeartbeats 8000000 in
set_option maxRecDepth 100000 in
theorem spec_l1Number.calls (a0 : Int) (r : Bool) (w : World) (h : spec_l1Number.f a0 = some r) :
    Calls Try.prog 38 #[.int .i64 a0] w fun e w' => e = .returned (.bool r) ∧ Drawn0 w w' := by
  have H : ((spec_l6In.f a0 (-5000) 5000).bind fun t101 => (some t101)) = some r := h
  clear h
  replace H := Option.bind_eq_some_iff.mp H
  obtain ⟨t101, A20, H⟩ := H
  replace H : (some t101) = some r := H
  have A2 := Aside0.mk A20
  clear A20
  obtain rfl := Option.some.inj H
  go_enter Try.func38, Try.ntmps38
  go_wp2_with (first | ((with_reducible refine gate_callee (f := 41) rfl ?_); refine goesL_ (some 4) rfl rfl Try.func41 (by kernel_rfl) rfl #[.int .i64 a0, .int .i64 (-5000), .int .i64 5000] rfl (by (try simp only [List.map_toArray, List.map_cons, List.map_nil]); first | done | rfl | (simp only [List.length_drop, List.length_take]; rfl)) ?_; (with_reducible refine (spec_l6In.calls a0 (-5000) 5000 t101 _ A2.out).mono ?_); rintro e w' ⟨rfl, ⟨nd, rfl⟩⟩; refine ⟨_, rfl, ?_⟩))
  go_ret
  exact ⟨by first | rfl | (simp; done) | (simp [*]; done), by repeat (first | exact Drawn0.refl _ | apply Drawn0.step)⟩

/-! ### spec_l3Ok: function 37 -/
def spec_l3Ok.f (a0 : Int) (a1 : Int) : Option (Bool) := (spec_l1Number.f a0).bind fun t102 => (if t102 = true then ((spec_l1Number.f a1).bind fun t103 => (if t103 = true then (if a0 = 0 then (some false) else (some (a1 != 0))) else (some false))) else (some false))
set_option maxHeartbeats 8000000 in
set_option maxRecDepth 100000 in
theorem spec_l3Ok.calls (a0 : Int) (a1 : Int) (r : Bool) (w : World) (h : spec_l3Ok.f a0 a1 = some r) :
    Calls Try.prog 37 #[.int .i64 a0, .int .i64 a1] w fun e w' => e = .returned (.bool r) ∧ Drawn0 w w' := by
  have H : ((spec_l1Number.f a0).bind fun t102 => (if t102 = true then ((spec_l1Number.f a1).bind fun t103 => (if t103 = true then (if a0 = 0 then (some false) else (some (a1 != 0))) else (some false))) else (some false))) = some r := h
  clear h
  replace H := Option.bind_eq_some_iff.mp H
  obtain ⟨t102, A30, H⟩ := H
  replace H : (if t102 = true then ((spec_l1Number.f a1).bind fun t103 => (if t103 = true then (if a0 = 0 then (some false) else (some (a1 != 0))) else (some false))) else (some false)) = some r := H
  have A3 := Aside0.mk A30
  clear A30
  by_cases c4 : t102 = true
  · subst c4
    have H1 : ((spec_l1Number.f a1).bind fun t103 => (if t103 = true then (if a0 = 0 then (some false) else (some (a1 != 0))) else (some false))) = some r := by rw [if_pos rfl] at H; exact H
    clear H
    have H := H1
    clear H1
    replace H := Option.bind_eq_some_iff.mp H
    obtain ⟨t103, A50, H⟩ := H
    replace H : (if t103 = true then (if a0 = 0 then (some false) else (some (a1 != 0))) else (some false)) = some r := H
    have A5 := Aside0.mk A50
    clear A50
    by_cases c6 : t103 = true
    · subst c6
      have H1 : (if a0 = 0 then (some false) else (some (a1 != 0))) = some r := by rw [if_pos rfl] at H; exact H
      clear H
      have H := H1
      clear H1
      by_cases c7 : a0 = 0
      · rw [if_pos c7] at H
        have c7b0 : (a0 == 0) = true := beq_iff_eq.mpr c7
        have c7b1 : (a0 != 0) = false := bne_eq_false_iff_eq.mpr c7
        clear c7
        obtain rfl := Option.some.inj H
        go_enter Try.func37, Try.ntmps37
        go_wp2_with (first | ((with_reducible refine gate_callee (f := 38) rfl ?_); refine goesL_ (some 6) rfl rfl Try.func38 (by kernel_rfl) rfl #[.int .i64 a0] rfl (by (try simp only [List.map_toArray, List.map_cons, List.map_nil]); first | done | rfl | (simp only [List.length_drop, List.length_take]; rfl)) ?_; (with_reducible refine (spec_l1Number.calls a0 true _ A3.out).mono ?_); rintro e w' ⟨rfl, ⟨nd, rfl⟩⟩; refine ⟨_, rfl, ?_⟩) | (go_at_call 38; (with_reducible refine (spec_l1Number.calls a1 true _ A5.out).mono ?_); rintro e w' ⟨rfl, ⟨nd, rfl⟩⟩))
        go_ret
        exact ⟨by first | rfl | (simp; done) | (simp [*]; done), by repeat (first | exact Drawn0.refl _ | apply Drawn0.step)⟩
      · rw [if_neg c7] at H
        have c7b0 : (a0 == 0) = false := beq_eq_false_iff_ne.mpr c7
        have c7b1 : (a0 != 0) = true := bne_iff_ne.mpr c7
        obtain rfl := Option.some.inj H
        go_enter Try.func37, Try.ntmps37
        go_wp2_with (first | ((with_reducible refine gate_callee (f := 38) rfl ?_); refine goesL_ (some 6) rfl rfl Try.func38 (by kernel_rfl) rfl #[.int .i64 a0] rfl (by (try simp only [List.map_toArray, List.map_cons, List.map_nil]); first | done | rfl | (simp only [List.length_drop, List.length_take]; rfl)) ?_; (with_reducible refine (spec_l1Number.calls a0 true _ A3.out).mono ?_); rintro e w' ⟨rfl, ⟨nd, rfl⟩⟩; refine ⟨_, rfl, ?_⟩) | (go_at_call 38; (with_reducible refine (spec_l1Number.calls a1 true _ A5.out).mono ?_); rintro e w' ⟨rfl, ⟨nd, rfl⟩⟩))
        go_ret
        exact ⟨by first | rfl | (simp; done) | (simp [*]; done), by repeat (first | exact Drawn0.refl _ | apply Drawn0.step)⟩
    · replace c6 := Bool.eq_false_iff.mpr c6
      subst c6
      have H1 : (some false) = some r := by rw [if_neg (show ¬ (false = true) by decide)] at H; exact H
      clear H
      have H := H1
      clear H1
      obtain rfl := Option.some.inj H
      go_enter Try.func37, Try.ntmps37
      go_wp2_with (first | ((with_reducible refine gate_callee (f := 38) rfl ?_); refine goesL_ (some 6) rfl rfl Try.func38 (by kernel_rfl) rfl #[.int .i64 a0] rfl (by (try simp only [List.map_toArray, List.map_cons, List.map_nil]); first | done | rfl | (simp only [List.length_drop, List.length_take]; rfl)) ?_; (with_reducible refine (spec_l1Number.calls a0 true _ A3.out).mono ?_); rintro e w' ⟨rfl, ⟨nd, rfl⟩⟩; refine ⟨_, rfl, ?_⟩) | (go_at_call 38; (with_reducible refine (spec_l1Number.calls a1 false _ A5.out).mono ?_); rintro e w' ⟨rfl, ⟨nd, rfl⟩⟩))
      go_ret
      exact ⟨by first | rfl | (simp; done) | (simp [*]; done), by repeat (first | exact Drawn0.refl _ | apply Drawn0.step)⟩
  · replace c4 := Bool.eq_false_iff.mpr c4
    subst c4
    have H1 : (some false) = some r := by rw [if_neg (show ¬ (false = true) by decide)] at H; exact H
    clear H
    have H := H1
    clear H1
    obtain rfl := Option.some.inj H
    go_enter Try.func37, Try.ntmps37
    go_wp2_with (first | ((with_reducible refine gate_callee (f := 38) rfl ?_); refine goesL_ (some 6) rfl rfl Try.func38 (by kernel_rfl) rfl #[.int .i64 a0] rfl (by (try simp only [List.map_toArray, List.map_cons, List.map_nil]); first | done | rfl | (simp only [List.length_drop, List.length_take]; rfl)) ?_; (with_reducible refine (spec_l1Number.calls a0 false _ A3.out).mono ?_); rintro e w' ⟨rfl, ⟨nd, rfl⟩⟩; refine ⟨_, rfl, ?_⟩))
    go_ret
    exact ⟨by first | rfl | (simp; done) | (simp [*]; done), by repeat (first | exact Drawn0.refl _ | apply Drawn0.step)⟩

/-! ### spec_SymbolSolved: function 15 -/
def spec_SymbolSolved.f (a0 : Int) (a1 : Int) (a2 : Int) (a3 : Int) (a4 : Int) : Option (Bool) := (spec_l3Ok.f a0 a1).bind fun t104 => (if t104 = true then ((spec_l1Number.f a2).bind fun t105 => (if t105 = true then ((spec_l1Number.f a3).bind fun t106 => (if t106 = true then ((spec_l1Number.f a4).bind fun t107 => (if t107 = true then (if a2 = 0 then (if a3 = 0 then (if a4 = 0 then (some false) else (some ((wrap64 (a4 * a4)) == (wrap64 ((wrap64 ((wrap64 (a0 * a2)) * a2)) + (wrap64 ((wrap64 (a1 * a3)) * a3))))))) else (some ((wrap64 (a4 * a4)) == (wrap64 ((wrap64 ((wrap64 (a0 * a2)) * a2)) + (wrap64 ((wrap64 (a1 * a3)) * a3))))))) else (some ((wrap64 (a4 * a4)) == (wrap64 ((wrap64 ((wrap64 (a0 * a2)) * a2)) + (wrap64 ((wrap64 (a1 * a3)) * a3))))))) else (some false))) else (some false))) else (some false))) else (some false))
set_option maxHeartbeats 8000000 in
set_option maxRecDepth 100000 in
theorem spec_SymbolSolved.calls (a0 : Int) (a1 : Int) (a2 : Int) (a3 : Int) (a4 : Int) (r : Bool) (w : World) (h : spec_SymbolSolved.f a0 a1 a2 a3 a4 = some r) :
    Calls Try.prog 15 #[.int .i64 a0, .int .i64 a1, .int .i64 a2, .int .i64 a3, .int .i64 a4] w fun e w' => e = .returned (.bool r) ∧ Drawn0 w w' := by
  have H : ((spec_l3Ok.f a0 a1).bind fun t104 => (if t104 = true then ((spec_l1Number.f a2).bind fun t105 => (if t105 = true then ((spec_l1Number.f a3).bind fun t106 => (if t106 = true then ((spec_l1Number.f a4).bind fun t107 => (if t107 = true then (if a2 = 0 then (if a3 = 0 then (if a4 = 0 then (some false) else (some ((wrap64 (a4 * a4)) == (wrap64 ((wrap64 ((wrap64 (a0 * a2)) * a2)) + (wrap64 ((wrap64 (a1 * a3)) * a3))))))) else (some ((wrap64 (a4 * a4)) == (wrap64 ((wrap64 ((wrap64 (a0 * a2)) * a2)) + (wrap64 ((wrap64 (a1 * a3)) * a3))))))) else (some ((wrap64 (a4 * a4)) == (wrap64 ((wrap64 ((wrap64 (a0 * a2)) * a2)) + (wrap64 ((wrap64 (a1 * a3)) * a3))))))) else (some false))) else (some false))) else (some false))) else (some false))) = some r := h
  clear h
  replace H := Option.bind_eq_some_iff.mp H
  obtain ⟨t104, A60, H⟩ := H
  replace H : (if t104 = true then ((spec_l1Number.f a2).bind fun t105 => (if t105 = true then ((spec_l1Number.f a3).bind fun t106 => (if t106 = true then ((spec_l1Number.f a4).bind fun t107 => (if t107 = true then (if a2 = 0 then (if a3 = 0 then (if a4 = 0 then (some false) else (some ((wrap64 (a4 * a4)) == (wrap64 ((wrap64 ((wrap64 (a0 * a2)) * a2)) + (wrap64 ((wrap64 (a1 * a3)) * a3))))))) else (some ((wrap64 (a4 * a4)) == (wrap64 ((wrap64 ((wrap64 (a0 * a2)) * a2)) + (wrap64 ((wrap64 (a1 * a3)) * a3))))))) else (some ((wrap64 (a4 * a4)) == (wrap64 ((wrap64 ((wrap64 (a0 * a2)) * a2)) + (wrap64 ((wrap64 (a1 * a3)) * a3))))))) else (some false))) else (some false))) else (some false))) else (some false)) = some r := H
  have A6 := Aside0.mk A60
  clear A60
  by_cases c7 : t104 = true
  · subst c7
    have H1 : ((spec_l1Number.f a2).bind fun t105 => (if t105 = true then ((spec_l1Number.f a3).bind fun t106 => (if t106 = true then ((spec_l1Number.f a4).bind fun t107 => (if t107 = true then (if a2 = 0 then (if a3 = 0 then (if a4 = 0 then (some false) else (some ((wrap64 (a4 * a4)) == (wrap64 ((wrap64 ((wrap64 (a0 * a2)) * a2)) + (wrap64 ((wrap64 (a1 * a3)) * a3))))))) else (some ((wrap64 (a4 * a4)) == (wrap64 ((wrap64 ((wrap64 (a0 * a2)) * a2)) + (wrap64 ((wrap64 (a1 * a3)) * a3))))))) else (some ((wrap64 (a4 * a4)) == (wrap64 ((wrap64 ((wrap64 (a0 * a2)) * a2)) + (wrap64 ((wrap64 (a1 * a3)) * a3))))))) else (some false))) else (some false))) else (some false))) = some r := by rw [if_pos rfl] at H; exact H
    clear H
    have H := H1
    clear H1
    replace H := Option.bind_eq_some_iff.mp H
    obtain ⟨t105, A80, H⟩ := H
    replace H : (if t105 = true then ((spec_l1Number.f a3).bind fun t106 => (if t106 = true then ((spec_l1Number.f a4).bind fun t107 => (if t107 = true then (if a2 = 0 then (if a3 = 0 then (if a4 = 0 then (some false) else (some ((wrap64 (a4 * a4)) == (wrap64 ((wrap64 ((wrap64 (a0 * a2)) * a2)) + (wrap64 ((wrap64 (a1 * a3)) * a3))))))) else (some ((wrap64 (a4 * a4)) == (wrap64 ((wrap64 ((wrap64 (a0 * a2)) * a2)) + (wrap64 ((wrap64 (a1 * a3)) * a3))))))) else (some ((wrap64 (a4 * a4)) == (wrap64 ((wrap64 ((wrap64 (a0 * a2)) * a2)) + (wrap64 ((wrap64 (a1 * a3)) * a3))))))) else (some false))) else (some false))) else (some false)) = some r := H
    have A8 := Aside0.mk A80
    clear A80
    by_cases c9 : t105 = true
    · subst c9
      have H1 : ((spec_l1Number.f a3).bind fun t106 => (if t106 = true then ((spec_l1Number.f a4).bind fun t107 => (if t107 = true then (if a2 = 0 then (if a3 = 0 then (if a4 = 0 then (some false) else (some ((wrap64 (a4 * a4)) == (wrap64 ((wrap64 ((wrap64 (a0 * a2)) * a2)) + (wrap64 ((wrap64 (a1 * a3)) * a3))))))) else (some ((wrap64 (a4 * a4)) == (wrap64 ((wrap64 ((wrap64 (a0 * a2)) * a2)) + (wrap64 ((wrap64 (a1 * a3)) * a3))))))) else (some ((wrap64 (a4 * a4)) == (wrap64 ((wrap64 ((wrap64 (a0 * a2)) * a2)) + (wrap64 ((wrap64 (a1 * a3)) * a3))))))) else (some false))) else (some false))) = some r := by rw [if_pos rfl] at H; exact H
      clear H
      have H := H1
      clear H1
      replace H := Option.bind_eq_some_iff.mp H
      obtain ⟨t106, A100, H⟩ := H
      replace H : (if t106 = true then ((spec_l1Number.f a4).bind fun t107 => (if t107 = true then (if a2 = 0 then (if a3 = 0 then (if a4 = 0 then (some false) else (some ((wrap64 (a4 * a4)) == (wrap64 ((wrap64 ((wrap64 (a0 * a2)) * a2)) + (wrap64 ((wrap64 (a1 * a3)) * a3))))))) else (some ((wrap64 (a4 * a4)) == (wrap64 ((wrap64 ((wrap64 (a0 * a2)) * a2)) + (wrap64 ((wrap64 (a1 * a3)) * a3))))))) else (some ((wrap64 (a4 * a4)) == (wrap64 ((wrap64 ((wrap64 (a0 * a2)) * a2)) + (wrap64 ((wrap64 (a1 * a3)) * a3))))))) else (some false))) else (some false)) = some r := H
      have A10 := Aside0.mk A100
      clear A100
      by_cases c11 : t106 = true
      · subst c11
        have H1 : ((spec_l1Number.f a4).bind fun t107 => (if t107 = true then (if a2 = 0 then (if a3 = 0 then (if a4 = 0 then (some false) else (some ((wrap64 (a4 * a4)) == (wrap64 ((wrap64 ((wrap64 (a0 * a2)) * a2)) + (wrap64 ((wrap64 (a1 * a3)) * a3))))))) else (some ((wrap64 (a4 * a4)) == (wrap64 ((wrap64 ((wrap64 (a0 * a2)) * a2)) + (wrap64 ((wrap64 (a1 * a3)) * a3))))))) else (some ((wrap64 (a4 * a4)) == (wrap64 ((wrap64 ((wrap64 (a0 * a2)) * a2)) + (wrap64 ((wrap64 (a1 * a3)) * a3))))))) else (some false))) = some r := by rw [if_pos rfl] at H; exact H
        clear H
        have H := H1
        clear H1
        replace H := Option.bind_eq_some_iff.mp H
        obtain ⟨t107, A120, H⟩ := H
        replace H : (if t107 = true then (if a2 = 0 then (if a3 = 0 then (if a4 = 0 then (some false) else (some ((wrap64 (a4 * a4)) == (wrap64 ((wrap64 ((wrap64 (a0 * a2)) * a2)) + (wrap64 ((wrap64 (a1 * a3)) * a3))))))) else (some ((wrap64 (a4 * a4)) == (wrap64 ((wrap64 ((wrap64 (a0 * a2)) * a2)) + (wrap64 ((wrap64 (a1 * a3)) * a3))))))) else (some ((wrap64 (a4 * a4)) == (wrap64 ((wrap64 ((wrap64 (a0 * a2)) * a2)) + (wrap64 ((wrap64 (a1 * a3)) * a3))))))) else (some false)) = some r := H
        have A12 := Aside0.mk A120
        clear A120
        by_cases c13 : t107 = true
        · subst c13
          have H1 : (if a2 = 0 then (if a3 = 0 then (if a4 = 0 then (some false) else (some ((wrap64 (a4 * a4)) == (wrap64 ((wrap64 ((wrap64 (a0 * a2)) * a2)) + (wrap64 ((wrap64 (a1 * a3)) * a3))))))) else (some ((wrap64 (a4 * a4)) == (wrap64 ((wrap64 ((wrap64 (a0 * a2)) * a2)) + (wrap64 ((wrap64 (a1 * a3)) * a3))))))) else (some ((wrap64 (a4 * a4)) == (wrap64 ((wrap64 ((wrap64 (a0 * a2)) * a2)) + (wrap64 ((wrap64 (a1 * a3)) * a3))))))) = some r := by rw [if_pos rfl] at H; exact H
          clear H
          have H := H1
          clear H1
          by_cases c14 : a2 = 0
          · rw [if_pos c14] at H
            have c14b0 : (a2 == 0) = true := beq_iff_eq.mpr c14
            have c14b1 : (a2 != 0) = false := bne_eq_false_iff_eq.mpr c14
            clear c14
            by_cases c15 : a3 = 0
            · rw [if_pos c15] at H
              have c15b0 : (a3 == 0) = true := beq_iff_eq.mpr c15
              have c15b1 : (a3 != 0) = false := bne_eq_false_iff_eq.mpr c15
              clear c15
              by_cases c16 : a4 = 0
              · rw [if_pos c16] at H
                have c16b0 : (a4 == 0) = true := beq_iff_eq.mpr c16
                have c16b1 : (a4 != 0) = false := bne_eq_false_iff_eq.mpr c16
                clear c16
                obtain rfl := Option.some.inj H
                go_enter Try.func15, Try.ntmps15
                go_wp2_with (first | ((with_reducible refine gate_callee (f := 37) rfl ?_); refine goesL_ (some 13) rfl rfl Try.func37 (by kernel_rfl) rfl #[.int .i64 a0, .int .i64 a1] rfl (by (try simp only [List.map_toArray, List.map_cons, List.map_nil]); first | done | rfl | (simp only [List.length_drop, List.length_take]; rfl)) ?_; (with_reducible refine (spec_l3Ok.calls a0 a1 true _ A6.out).mono ?_); rintro e w' ⟨rfl, ⟨nd, rfl⟩⟩; refine ⟨_, rfl, ?_⟩) | (go_at_call 38; (with_reducible refine (spec_l1Number.calls a2 true _ A8.out).mono ?_); rintro e w' ⟨rfl, ⟨nd, rfl⟩⟩) | (go_at_call 38; (with_reducible refine (spec_l1Number.calls a3 true _ A10.out).mono ?_); rintro e w' ⟨rfl, ⟨nd, rfl⟩⟩) | (go_at_call 38; (with_reducible refine (spec_l1Number.calls a4 true _ A12.out).mono ?_); rintro e w' ⟨rfl, ⟨nd, rfl⟩⟩))
                go_ret
                exact ⟨by first | rfl | (simp; done) | (simp [*]; done), by repeat (first | exact Drawn0.refl _ | apply Drawn0.step)⟩
              · rw [if_neg c16] at H
                have c16b0 : (a4 == 0) = false := beq_eq_false_iff_ne.mpr c16
                have c16b1 : (a4 != 0) = true := bne_iff_ne.mpr c16
                obtain rfl := Option.some.inj H
                go_enter Try.func15, Try.ntmps15
                go_wp2_with (first | ((with_reducible refine gate_callee (f := 37) rfl ?_); refine goesL_ (some 13) rfl rfl Try.func37 (by kernel_rfl) rfl #[.int .i64 a0, .int .i64 a1] rfl (by (try simp only [List.map_toArray, List.map_cons, List.map_nil]); first | done | rfl | (simp only [List.length_drop, List.length_take]; rfl)) ?_; (with_reducible refine (spec_l3Ok.calls a0 a1 true _ A6.out).mono ?_); rintro e w' ⟨rfl, ⟨nd, rfl⟩⟩; refine ⟨_, rfl, ?_⟩) | (go_at_call 38; (with_reducible refine (spec_l1Number.calls a2 true _ A8.out).mono ?_); rintro e w' ⟨rfl, ⟨nd, rfl⟩⟩) | (go_at_call 38; (with_reducible refine (spec_l1Number.calls a3 true _ A10.out).mono ?_); rintro e w' ⟨rfl, ⟨nd, rfl⟩⟩) | (go_at_call 38; (with_reducible refine (spec_l1Number.calls a4 true _ A12.out).mono ?_); rintro e w' ⟨rfl, ⟨nd, rfl⟩⟩))
                go_ret
                exact ⟨by first | rfl | (simp; done) | (simp [*]; done), by repeat (first | exact Drawn0.refl _ | apply Drawn0.step)⟩
            · rw [if_neg c15] at H
              have c15b0 : (a3 == 0) = false := beq_eq_false_iff_ne.mpr c15
              have c15b1 : (a3 != 0) = true := bne_iff_ne.mpr c15
              obtain rfl := Option.some.inj H
              go_enter Try.func15, Try.ntmps15
              go_wp2_with (first | ((with_reducible refine gate_callee (f := 37) rfl ?_); refine goesL_ (some 13) rfl rfl Try.func37 (by kernel_rfl) rfl #[.int .i64 a0, .int .i64 a1] rfl (by (try simp only [List.map_toArray, List.map_cons, List.map_nil]); first | done | rfl | (simp only [List.length_drop, List.length_take]; rfl)) ?_; (with_reducible refine (spec_l3Ok.calls a0 a1 true _ A6.out).mono ?_); rintro e w' ⟨rfl, ⟨nd, rfl⟩⟩; refine ⟨_, rfl, ?_⟩) | (go_at_call 38; (with_reducible refine (spec_l1Number.calls a2 true _ A8.out).mono ?_); rintro e w' ⟨rfl, ⟨nd, rfl⟩⟩) | (go_at_call 38; (with_reducible refine (spec_l1Number.calls a3 true _ A10.out).mono ?_); rintro e w' ⟨rfl, ⟨nd, rfl⟩⟩) | (go_at_call 38; (with_reducible refine (spec_l1Number.calls a4 true _ A12.out).mono ?_); rintro e w' ⟨rfl, ⟨nd, rfl⟩⟩))
              go_ret
              exact ⟨by first | rfl | (simp; done) | (simp [*]; done), by repeat (first | exact Drawn0.refl _ | apply Drawn0.step)⟩
          · rw [if_neg c14] at H
            have c14b0 : (a2 == 0) = false := beq_eq_false_iff_ne.mpr c14
            have c14b1 : (a2 != 0) = true := bne_iff_ne.mpr c14
            obtain rfl := Option.some.inj H
            go_enter Try.func15, Try.ntmps15
            go_wp2_with (first | ((with_reducible refine gate_callee (f := 37) rfl ?_); refine goesL_ (some 13) rfl rfl Try.func37 (by kernel_rfl) rfl #[.int .i64 a0, .int .i64 a1] rfl (by (try simp only [List.map_toArray, List.map_cons, List.map_nil]); first | done | rfl | (simp only [List.length_drop, List.length_take]; rfl)) ?_; (with_reducible refine (spec_l3Ok.calls a0 a1 true _ A6.out).mono ?_); rintro e w' ⟨rfl, ⟨nd, rfl⟩⟩; refine ⟨_, rfl, ?_⟩) | (go_at_call 38; (with_reducible refine (spec_l1Number.calls a2 true _ A8.out).mono ?_); rintro e w' ⟨rfl, ⟨nd, rfl⟩⟩) | (go_at_call 38; (with_reducible refine (spec_l1Number.calls a3 true _ A10.out).mono ?_); rintro e w' ⟨rfl, ⟨nd, rfl⟩⟩) | (go_at_call 38; (with_reducible refine (spec_l1Number.calls a4 true _ A12.out).mono ?_); rintro e w' ⟨rfl, ⟨nd, rfl⟩⟩))
            go_ret
            exact ⟨by first | rfl | (simp; done) | (simp [*]; done), by repeat (first | exact Drawn0.refl _ | apply Drawn0.step)⟩
        · replace c13 := Bool.eq_false_iff.mpr c13
          subst c13
          have H1 : (some false) = some r := by rw [if_neg (show ¬ (false = true) by decide)] at H; exact H
          clear H
          have H := H1
          clear H1
          obtain rfl := Option.some.inj H
          go_enter Try.func15, Try.ntmps15
          go_wp2_with (first | ((with_reducible refine gate_callee (f := 37) rfl ?_); refine goesL_ (some 13) rfl rfl Try.func37 (by kernel_rfl) rfl #[.int .i64 a0, .int .i64 a1] rfl (by (try simp only [List.map_toArray, List.map_cons, List.map_nil]); first | done | rfl | (simp only [List.length_drop, List.length_take]; rfl)) ?_; (with_reducible refine (spec_l3Ok.calls a0 a1 true _ A6.out).mono ?_); rintro e w' ⟨rfl, ⟨nd, rfl⟩⟩; refine ⟨_, rfl, ?_⟩) | (go_at_call 38; (with_reducible refine (spec_l1Number.calls a2 true _ A8.out).mono ?_); rintro e w' ⟨rfl, ⟨nd, rfl⟩⟩) | (go_at_call 38; (with_reducible refine (spec_l1Number.calls a3 true _ A10.out).mono ?_); rintro e w' ⟨rfl, ⟨nd, rfl⟩⟩) | (go_at_call 38; (with_reducible refine (spec_l1Number.calls a4 false _ A12.out).mono ?_); rintro e w' ⟨rfl, ⟨nd, rfl⟩⟩))
          go_ret
          exact ⟨by first | rfl | (simp; done) | (simp [*]; done), by repeat (first | exact Drawn0.refl _ | apply Drawn0.step)⟩
      · replace c11 := Bool.eq_false_iff.mpr c11
        subst c11
        have H1 : (some false) = some r := by rw [if_neg (show ¬ (false = true) by decide)] at H; exact H
        clear H
        have H := H1
        clear H1
        obtain rfl := Option.some.inj H
        go_enter Try.func15, Try.ntmps15
        go_wp2_with (first | ((with_reducible refine gate_callee (f := 37) rfl ?_); refine goesL_ (some 13) rfl rfl Try.func37 (by kernel_rfl) rfl #[.int .i64 a0, .int .i64 a1] rfl (by (try simp only [List.map_toArray, List.map_cons, List.map_nil]); first | done | rfl | (simp only [List.length_drop, List.length_take]; rfl)) ?_; (with_reducible refine (spec_l3Ok.calls a0 a1 true _ A6.out).mono ?_); rintro e w' ⟨rfl, ⟨nd, rfl⟩⟩; refine ⟨_, rfl, ?_⟩) | (go_at_call 38; (with_reducible refine (spec_l1Number.calls a2 true _ A8.out).mono ?_); rintro e w' ⟨rfl, ⟨nd, rfl⟩⟩) | (go_at_call 38; (with_reducible refine (spec_l1Number.calls a3 false _ A10.out).mono ?_); rintro e w' ⟨rfl, ⟨nd, rfl⟩⟩))
        go_ret
        exact ⟨by first | rfl | (simp; done) | (simp [*]; done), by repeat (first | exact Drawn0.refl _ | apply Drawn0.step)⟩
    · replace c9 := Bool.eq_false_iff.mpr c9
      subst c9
      have H1 : (some false) = some r := by rw [if_neg (show ¬ (false = true) by decide)] at H; exact H
      clear H
      have H := H1
      clear H1
      obtain rfl := Option.some.inj H
      go_enter Try.func15, Try.ntmps15
      go_wp2_with (first | ((with_reducible refine gate_callee (f := 37) rfl ?_); refine goesL_ (some 13) rfl rfl Try.func37 (by kernel_rfl) rfl #[.int .i64 a0, .int .i64 a1] rfl (by (try simp only [List.map_toArray, List.map_cons, List.map_nil]); first | done | rfl | (simp only [List.length_drop, List.length_take]; rfl)) ?_; (with_reducible refine (spec_l3Ok.calls a0 a1 true _ A6.out).mono ?_); rintro e w' ⟨rfl, ⟨nd, rfl⟩⟩; refine ⟨_, rfl, ?_⟩) | (go_at_call 38; (with_reducible refine (spec_l1Number.calls a2 false _ A8.out).mono ?_); rintro e w' ⟨rfl, ⟨nd, rfl⟩⟩))
      go_ret
      exact ⟨by first | rfl | (simp; done) | (simp [*]; done), by repeat (first | exact Drawn0.refl _ | apply Drawn0.step)⟩
  · replace c7 := Bool.eq_false_iff.mpr c7
    subst c7
    have H1 : (some false) = some r := by rw [if_neg (show ¬ (false = true) by decide)] at H; exact H
    clear H
    have H := H1
    clear H1
    obtain rfl := Option.some.inj H
    go_enter Try.func15, Try.ntmps15
    go_wp2_with (first | ((with_reducible refine gate_callee (f := 37) rfl ?_); refine goesL_ (some 13) rfl rfl Try.func37 (by kernel_rfl) rfl #[.int .i64 a0, .int .i64 a1] rfl (by (try simp only [List.map_toArray, List.map_cons, List.map_nil]); first | done | rfl | (simp only [List.length_drop, List.length_take]; rfl)) ?_; (with_reducible refine (spec_l3Ok.calls a0 a1 false _ A6.out).mono ?_); rintro e w' ⟨rfl, ⟨nd, rfl⟩⟩; refine ⟨_, rfl, ?_⟩))
    go_ret
    exact ⟨by first | rfl | (simp; done) | (simp [*]; done), by repeat (first | exact Drawn0.refl _ | apply Drawn0.step)⟩

/-! ### impl_isNumber: function 40 -/
def impl_isNumber.f (a0 : Int) : Option (Bool) := if a0 ≥ (-5000) then (some (decide (a0 ≤ 5000))) else (some false)
set_option maxHeartbeats 8000000 in
set_option maxRecDepth 100000 in
theorem impl_isNumber.calls (a0 : Int) (r : Bool) (w : World) (h : impl_isNumber.f a0 = some r) :
    Calls Try.prog 40 #[.int .i64 a0] w fun e w' => e = .returned (.bool r) ∧ Drawn0 w w' := by
  have H : (if a0 ≥ (-5000) then (some (decide (a0 ≤ 5000))) else (some false)) = some r := h
  clear h
  by_cases c2 : a0 ≥ (-5000)
  · rw [if_pos c2] at H
    have c2b0 : decide ((-5000) ≤ a0) = true := decide_eq_true c2
    clear c2
    obtain rfl := Option.some.inj H
    go_enter Try.func40, Try.ntmps40
    go_wp2
    go_ret
    exact ⟨by first | rfl | (simp; done) | (simp [*]; done), by repeat (first | exact Drawn0.refl _ | apply Drawn0.step)⟩
  · rw [if_neg c2] at H
    have c2b0 : decide ((-5000) ≤ a0) = false := decide_eq_false c2
    clear c2
    obtain rfl := Option.some.inj H
    go_enter Try.func40, Try.ntmps40
    go_wp2
    go_ret
    exact ⟨by first | rfl | (simp; done) | (simp [*]; done), by repeat (first | exact Drawn0.refl _ | apply Drawn0.step)⟩

/-! ### impl_bothNumbers: function 39 -/
def impl_bothNumbers.f (a0 : Int) (a1 : Int) : Option (Bool) := if a0 = 0 then (some false) else (if a1 = 0 then (some false) else ((impl_isNumber.f a0).bind fun t108 => (if t108 = true then ((impl_isNumber.f a1).bind fun t109 => (some t109)) else (some false))))
set_option maxHeartbeats 8000000 in
set_option maxRecDepth 100000 in
theorem impl_bothNumbers.calls (a0 : Int) (a1 : Int) (r : Bool) (w : World) (h : impl_bothNumbers.f a0 a1 = some r) :
    Calls Try.prog 39 #[.int .i64 a0, .int .i64 a1] w fun e w' => e = .returned (.bool r) ∧ Drawn0 w w' := by
  have H : (if a0 = 0 then (some false) else (if a1 = 0 then (some false) else ((impl_isNumber.f a0).bind fun t108 => (if t108 = true then ((impl_isNumber.f a1).bind fun t109 => (some t109)) else (some false))))) = some r := h
  clear h
  by_cases c3 : a0 = 0
  · rw [if_pos c3] at H
    have c3b0 : (a0 == 0) = true := beq_iff_eq.mpr c3
    have c3b1 : (a0 != 0) = false := bne_eq_false_iff_eq.mpr c3
    clear c3
    obtain rfl := Option.some.inj H
    go_enter Try.func39, Try.ntmps39
    go_wp2
    go_ret
    exact ⟨by first | rfl | (simp; done) | (simp [*]; done), by repeat (first | exact Drawn0.refl _ | apply Drawn0.step)⟩
  · rw [if_neg c3] at H
    have c3b0 : (a0 == 0) = false := beq_eq_false_iff_ne.mpr c3
    have c3b1 : (a0 != 0) = true := bne_iff_ne.mpr c3
    by_cases c4 : a1 = 0
    · rw [if_pos c4] at H
      have c4b0 : (a1 == 0) = true := beq_iff_eq.mpr c4
      have c4b1 : (a1 != 0) = false := bne_eq_false_iff_eq.mpr c4
      clear c4
      obtain rfl := Option.some.inj H
      go_enter Try.func39, Try.ntmps39
      go_wp2
      go_ret
      exact ⟨by first | rfl | (simp; done) | (simp [*]; done), by repeat (first | exact Drawn0.refl _ | apply Drawn0.step)⟩
    · rw [if_neg c4] at H
      have c4b0 : (a1 == 0) = false := beq_eq_false_iff_ne.mpr c4
      have c4b1 : (a1 != 0) = true := bne_iff_ne.mpr c4
      replace H := Option.bind_eq_some_iff.mp H
      obtain ⟨t108, A50, H⟩ := H
      replace H : (if t108 = true then ((impl_isNumber.f a1).bind fun t109 => (some t109)) else (some false)) = some r := H
      have A5 := Aside0.mk A50
      clear A50
      by_cases c6 : t108 = true
      · subst c6
        have H1 : ((impl_isNumber.f a1).bind fun t109 => (some t109)) = some r := by rw [if_pos rfl] at H; exact H
        clear H
        have H := H1
        clear H1
        replace H := Option.bind_eq_some_iff.mp H
        obtain ⟨t109, A70, H⟩ := H
        replace H : (some t109) = some r := H
        have A7 := Aside0.mk A70
        clear A70
        obtain rfl := Option.some.inj H
        go_enter Try.func39, Try.ntmps39
        go_wp2_with (first | (go_at_call 40; (with_reducible refine (impl_isNumber.calls a0 true _ A5.out).mono ?_); rintro e w' ⟨rfl, ⟨nd, rfl⟩⟩) | (go_at_call 40; (with_reducible refine (impl_isNumber.calls a1 t109 _ A7.out).mono ?_); rintro e w' ⟨rfl, ⟨nd, rfl⟩⟩))
        go_ret
        exact ⟨by first | rfl | (simp; done) | (simp [*]; done), by repeat (first | exact Drawn0.refl _ | apply Drawn0.step)⟩
      · replace c6 := Bool.eq_false_iff.mpr c6
        subst c6
        have H1 : (some false) = some r := by rw [if_neg (show ¬ (false = true) by decide)] at H; exact H
        clear H
        have H := H1
        clear H1
        obtain rfl := Option.some.inj H
        go_enter Try.func39, Try.ntmps39
        go_wp2_with (first | (go_at_call 40; (with_reducible refine (impl_isNumber.calls a0 false _ A5.out).mono ?_); rintro e w' ⟨rfl, ⟨nd, rfl⟩⟩))
        go_ret
        exact ⟨by first | rfl | (simp; done) | (simp [*]; done), by repeat (first | exact Drawn0.refl _ | apply Drawn0.step)⟩

/-! ### impl_SymbolSolved: function 16 -/
def impl_SymbolSolved.f (a0 : Int) (a1 : Int) (a2 : Int) (a3 : Int) (a4 : Int) : Option (Bool) := (impl_bothNumbers.f a0 a1).bind fun t110 => (if t110 = true then ((impl_isNumber.f a2).bind fun t111 => (if t111 = true then ((impl_isNumber.f a3).bind fun t112 => (if t112 = true then ((impl_isNumber.f a4).bind fun t113 => (if t113 = true then (if a2 = 0 then (if a3 = 0 then (if a4 = 0 then (some false) else (some ((wrap64 (a4 * a4)) == (wrap64 ((wrap64 ((wrap64 (a0 * a2)) * a2)) + (wrap64 ((wrap64 (a1 * a3)) * a3))))))) else (some ((wrap64 (a4 * a4)) == (wrap64 ((wrap64 ((wrap64 (a0 * a2)) * a2)) + (wrap64 ((wrap64 (a1 * a3)) * a3))))))) else (some ((wrap64 (a4 * a4)) == (wrap64 ((wrap64 ((wrap64 (a0 * a2)) * a2)) + (wrap64 ((wrap64 (a1 * a3)) * a3))))))) else (some false))) else (some false))) else (some false))) else (some false))
set_option maxHeartbeats 8000000 in
set_option maxRecDepth 100000 in
theorem impl_SymbolSolved.calls (a0 : Int) (a1 : Int) (a2 : Int) (a3 : Int) (a4 : Int) (r : Bool) (w : World) (h : impl_SymbolSolved.f a0 a1 a2 a3 a4 = some r) :
    Calls Try.prog 16 #[.int .i64 a0, .int .i64 a1, .int .i64 a2, .int .i64 a3, .int .i64 a4] w fun e w' => e = .returned (.bool r) ∧ Drawn0 w w' := by
  have H : ((impl_bothNumbers.f a0 a1).bind fun t110 => (if t110 = true then ((impl_isNumber.f a2).bind fun t111 => (if t111 = true then ((impl_isNumber.f a3).bind fun t112 => (if t112 = true then ((impl_isNumber.f a4).bind fun t113 => (if t113 = true then (if a2 = 0 then (if a3 = 0 then (if a4 = 0 then (some false) else (some ((wrap64 (a4 * a4)) == (wrap64 ((wrap64 ((wrap64 (a0 * a2)) * a2)) + (wrap64 ((wrap64 (a1 * a3)) * a3))))))) else (some ((wrap64 (a4 * a4)) == (wrap64 ((wrap64 ((wrap64 (a0 * a2)) * a2)) + (wrap64 ((wrap64 (a1 * a3)) * a3))))))) else (some ((wrap64 (a4 * a4)) == (wrap64 ((wrap64 ((wrap64 (a0 * a2)) * a2)) + (wrap64 ((wrap64 (a1 * a3)) * a3))))))) else (some false))) else (some false))) else (some false))) else (some false))) = some r := h
  clear h
  replace H := Option.bind_eq_some_iff.mp H
  obtain ⟨t110, A60, H⟩ := H
  replace H : (if t110 = true then ((impl_isNumber.f a2).bind fun t111 => (if t111 = true then ((impl_isNumber.f a3).bind fun t112 => (if t112 = true then ((impl_isNumber.f a4).bind fun t113 => (if t113 = true then (if a2 = 0 then (if a3 = 0 then (if a4 = 0 then (some false) else (some ((wrap64 (a4 * a4)) == (wrap64 ((wrap64 ((wrap64 (a0 * a2)) * a2)) + (wrap64 ((wrap64 (a1 * a3)) * a3))))))) else (some ((wrap64 (a4 * a4)) == (wrap64 ((wrap64 ((wrap64 (a0 * a2)) * a2)) + (wrap64 ((wrap64 (a1 * a3)) * a3))))))) else (some ((wrap64 (a4 * a4)) == (wrap64 ((wrap64 ((wrap64 (a0 * a2)) * a2)) + (wrap64 ((wrap64 (a1 * a3)) * a3))))))) else (some false))) else (some false))) else (some false))) else (some false)) = some r := H
  have A6 := Aside0.mk A60
  clear A60
  by_cases c7 : t110 = true
  · subst c7
    have H1 : ((impl_isNumber.f a2).bind fun t111 => (if t111 = true then ((impl_isNumber.f a3).bind fun t112 => (if t112 = true then ((impl_isNumber.f a4).bind fun t113 => (if t113 = true then (if a2 = 0 then (if a3 = 0 then (if a4 = 0 then (some false) else (some ((wrap64 (a4 * a4)) == (wrap64 ((wrap64 ((wrap64 (a0 * a2)) * a2)) + (wrap64 ((wrap64 (a1 * a3)) * a3))))))) else (some ((wrap64 (a4 * a4)) == (wrap64 ((wrap64 ((wrap64 (a0 * a2)) * a2)) + (wrap64 ((wrap64 (a1 * a3)) * a3))))))) else (some ((wrap64 (a4 * a4)) == (wrap64 ((wrap64 ((wrap64 (a0 * a2)) * a2)) + (wrap64 ((wrap64 (a1 * a3)) * a3))))))) else (some false))) else (some false))) else (some false))) = some r := by rw [if_pos rfl] at H; exact H
    clear H
    have H := H1
    clear H1
    replace H := Option.bind_eq_some_iff.mp H
    obtain ⟨t111, A80, H⟩ := H
    replace H : (if t111 = true then ((impl_isNumber.f a3).bind fun t112 => (if t112 = true then ((impl_isNumber.f a4).bind fun t113 => (if t113 = true then (if a2 = 0 then (if a3 = 0 then (if a4 = 0 then (some false) else (some ((wrap64 (a4 * a4)) == (wrap64 ((wrap64 ((wrap64 (a0 * a2)) * a2)) + (wrap64 ((wrap64 (a1 * a3)) * a3))))))) else (some ((wrap64 (a4 * a4)) == (wrap64 ((wrap64 ((wrap64 (a0 * a2)) * a2)) + (wrap64 ((wrap64 (a1 * a3)) * a3))))))) else (some ((wrap64 (a4 * a4)) == (wrap64 ((wrap64 ((wrap64 (a0 * a2)) * a2)) + (wrap64 ((wrap64 (a1 * a3)) * a3))))))) else (some false))) else (some false))) else (some false)) = some r := H
    have A8 := Aside0.mk A80
    clear A80
    by_cases c9 : t111 = true
    · subst c9
      have H1 : ((impl_isNumber.f a3).bind fun t112 => (if t112 = true then ((impl_isNumber.f a4).bind fun t113 => (if t113 = true then (if a2 = 0 then (if a3 = 0 then (if a4 = 0 then (some false) else (some ((wrap64 (a4 * a4)) == (wrap64 ((wrap64 ((wrap64 (a0 * a2)) * a2)) + (wrap64 ((wrap64 (a1 * a3)) * a3))))))) else (some ((wrap64 (a4 * a4)) == (wrap64 ((wrap64 ((wrap64 (a0 * a2)) * a2)) + (wrap64 ((wrap64 (a1 * a3)) * a3))))))) else (some ((wrap64 (a4 * a4)) == (wrap64 ((wrap64 ((wrap64 (a0 * a2)) * a2)) + (wrap64 ((wrap64 (a1 * a3)) * a3))))))) else (some false))) else (some false))) = some r := by rw [if_pos rfl] at H; exact H
      clear H
      have H := H1
      clear H1
      replace H := Option.bind_eq_some_iff.mp H
      obtain ⟨t112, A100, H⟩ := H
      replace H : (if t112 = true then ((impl_isNumber.f a4).bind fun t113 => (if t113 = true then (if a2 = 0 then (if a3 = 0 then (if a4 = 0 then (some false) else (some ((wrap64 (a4 * a4)) == (wrap64 ((wrap64 ((wrap64 (a0 * a2)) * a2)) + (wrap64 ((wrap64 (a1 * a3)) * a3))))))) else (some ((wrap64 (a4 * a4)) == (wrap64 ((wrap64 ((wrap64 (a0 * a2)) * a2)) + (wrap64 ((wrap64 (a1 * a3)) * a3))))))) else (some ((wrap64 (a4 * a4)) == (wrap64 ((wrap64 ((wrap64 (a0 * a2)) * a2)) + (wrap64 ((wrap64 (a1 * a3)) * a3))))))) else (some false))) else (some false)) = some r := H
      have A10 := Aside0.mk A100
      clear A100
      by_cases c11 : t112 = true
      · subst c11
        have H1 : ((impl_isNumber.f a4).bind fun t113 => (if t113 = true then (if a2 = 0 then (if a3 = 0 then (if a4 = 0 then (some false) else (some ((wrap64 (a4 * a4)) == (wrap64 ((wrap64 ((wrap64 (a0 * a2)) * a2)) + (wrap64 ((wrap64 (a1 * a3)) * a3))))))) else (some ((wrap64 (a4 * a4)) == (wrap64 ((wrap64 ((wrap64 (a0 * a2)) * a2)) + (wrap64 ((wrap64 (a1 * a3)) * a3))))))) else (some ((wrap64 (a4 * a4)) == (wrap64 ((wrap64 ((wrap64 (a0 * a2)) * a2)) + (wrap64 ((wrap64 (a1 * a3)) * a3))))))) else (some false))) = some r := by rw [if_pos rfl] at H; exact H
        clear H
        have H := H1
        clear H1
        replace H := Option.bind_eq_some_iff.mp H
        obtain ⟨t113, A120, H⟩ := H
        replace H : (if t113 = true then (if a2 = 0 then (if a3 = 0 then (if a4 = 0 then (some false) else (some ((wrap64 (a4 * a4)) == (wrap64 ((wrap64 ((wrap64 (a0 * a2)) * a2)) + (wrap64 ((wrap64 (a1 * a3)) * a3))))))) else (some ((wrap64 (a4 * a4)) == (wrap64 ((wrap64 ((wrap64 (a0 * a2)) * a2)) + (wrap64 ((wrap64 (a1 * a3)) * a3))))))) else (some ((wrap64 (a4 * a4)) == (wrap64 ((wrap64 ((wrap64 (a0 * a2)) * a2)) + (wrap64 ((wrap64 (a1 * a3)) * a3))))))) else (some false)) = some r := H
        have A12 := Aside0.mk A120
        clear A120
        by_cases c13 : t113 = true
        · subst c13
          have H1 : (if a2 = 0 then (if a3 = 0 then (if a4 = 0 then (some false) else (some ((wrap64 (a4 * a4)) == (wrap64 ((wrap64 ((wrap64 (a0 * a2)) * a2)) + (wrap64 ((wrap64 (a1 * a3)) * a3))))))) else (some ((wrap64 (a4 * a4)) == (wrap64 ((wrap64 ((wrap64 (a0 * a2)) * a2)) + (wrap64 ((wrap64 (a1 * a3)) * a3))))))) else (some ((wrap64 (a4 * a4)) == (wrap64 ((wrap64 ((wrap64 (a0 * a2)) * a2)) + (wrap64 ((wrap64 (a1 * a3)) * a3))))))) = some r := by rw [if_pos rfl] at H; exact H
          clear H
          have H := H1
          clear H1
          by_cases c14 : a2 = 0
          · rw [if_pos c14] at H
            have c14b0 : (a2 == 0) = true := beq_iff_eq.mpr c14
            have c14b1 : (a2 != 0) = false := bne_eq_false_iff_eq.mpr c14
            clear c14
            by_cases c15 : a3 = 0
            · rw [if_pos c15] at H
              have c15b0 : (a3 == 0) = true := beq_iff_eq.mpr c15
              have c15b1 : (a3 != 0) = false := bne_eq_false_iff_eq.mpr c15
              clear c15
              by_cases c16 : a4 = 0
              · rw [if_pos c16] at H
                have c16b0 : (a4 == 0) = true := beq_iff_eq.mpr c16
                have c16b1 : (a4 != 0) = false := bne_eq_false_iff_eq.mpr c16
                clear c16
                obtain rfl := Option.some.inj H
                go_enter Try.func16, Try.ntmps16
                go_wp2_with (first | ((with_reducible refine gate_callee (f := 39) rfl ?_); refine goesL_ (some 13) rfl rfl Try.func39 (by kernel_rfl) rfl #[.int .i64 a0, .int .i64 a1] rfl (by (try simp only [List.map_toArray, List.map_cons, List.map_nil]); first | done | rfl | (simp only [List.length_drop, List.length_take]; rfl)) ?_; (with_reducible refine (impl_bothNumbers.calls a0 a1 true _ A6.out).mono ?_); rintro e w' ⟨rfl, ⟨nd, rfl⟩⟩; refine ⟨_, rfl, ?_⟩) | (go_at_call 40; (with_reducible refine (impl_isNumber.calls a2 true _ A8.out).mono ?_); rintro e w' ⟨rfl, ⟨nd, rfl⟩⟩) | (go_at_call 40; (with_reducible refine (impl_isNumber.calls a3 true _ A10.out).mono ?_); rintro e w' ⟨rfl, ⟨nd, rfl⟩⟩) | (go_at_call 40; (with_reducible refine (impl_isNumber.calls a4 true _ A12.out).mono ?_); rintro e w' ⟨rfl, ⟨nd, rfl⟩⟩))
                go_ret
                exact ⟨by first | rfl | (simp; done) | (simp [*]; done), by repeat (first | exact Drawn0.refl _ | apply Drawn0.step)⟩
              · rw [if_neg c16] at H
                have c16b0 : (a4 == 0) = false := beq_eq_false_iff_ne.mpr c16
                have c16b1 : (a4 != 0) = true := bne_iff_ne.mpr c16
                obtain rfl := Option.some.inj H
                go_enter Try.func16, Try.ntmps16
                go_wp2_with (first | ((with_reducible refine gate_callee (f := 39) rfl ?_); refine goesL_ (some 13) rfl rfl Try.func39 (by kernel_rfl) rfl #[.int .i64 a0, .int .i64 a1] rfl (by (try simp only [List.map_toArray, List.map_cons, List.map_nil]); first | done | rfl | (simp only [List.length_drop, List.length_take]; rfl)) ?_; (with_reducible refine (impl_bothNumbers.calls a0 a1 true _ A6.out).mono ?_); rintro e w' ⟨rfl, ⟨nd, rfl⟩⟩; refine ⟨_, rfl, ?_⟩) | (go_at_call 40; (with_reducible refine (impl_isNumber.calls a2 true _ A8.out).mono ?_); rintro e w' ⟨rfl, ⟨nd, rfl⟩⟩) | (go_at_call 40; (with_reducible refine (impl_isNumber.calls a3 true _ A10.out).mono ?_); rintro e w' ⟨rfl, ⟨nd, rfl⟩⟩) | (go_at_call 40; (with_reducible refine (impl_isNumber.calls a4 true _ A12.out).mono ?_); rintro e w' ⟨rfl, ⟨nd, rfl⟩⟩))
                go_ret
                exact ⟨by first | rfl | (simp; done) | (simp [*]; done), by repeat (first | exact Drawn0.refl _ | apply Drawn0.step)⟩
            · rw [if_neg c15] at H
              have c15b0 : (a3 == 0) = false := beq_eq_false_iff_ne.mpr c15
              have c15b1 : (a3 != 0) = true := bne_iff_ne.mpr c15
              obtain rfl := Option.some.inj H
              go_enter Try.func16, Try.ntmps16
              go_wp2_with (first | ((with_reducible refine gate_callee (f := 39) rfl ?_); refine goesL_ (some 13) rfl rfl Try.func39 (by kernel_rfl) rfl #[.int .i64 a0, .int .i64 a1] rfl (by (try simp only [List.map_toArray, List.map_cons, List.map_nil]); first | done | rfl | (simp only [List.length_drop, List.length_take]; rfl)) ?_; (with_reducible refine (impl_bothNumbers.calls a0 a1 true _ A6.out).mono ?_); rintro e w' ⟨rfl, ⟨nd, rfl⟩⟩; refine ⟨_, rfl, ?_⟩) | (go_at_call 40; (with_reducible refine (impl_isNumber.calls a2 true _ A8.out).mono ?_); rintro e w' ⟨rfl, ⟨nd, rfl⟩⟩) | (go_at_call 40; (with_reducible refine (impl_isNumber.calls a3 true _ A10.out).mono ?_); rintro e w' ⟨rfl, ⟨nd, rfl⟩⟩) | (go_at_call 40; (with_reducible refine (impl_isNumber.calls a4 true _ A12.out).mono ?_); rintro e w' ⟨rfl, ⟨nd, rfl⟩⟩))
              go_ret
              exact ⟨by first | rfl | (simp; done) | (simp [*]; done), by repeat (first | exact Drawn0.refl _ | apply Drawn0.step)⟩
          · rw [if_neg c14] at H
            have c14b0 : (a2 == 0) = false := beq_eq_false_iff_ne.mpr c14
            have c14b1 : (a2 != 0) = true := bne_iff_ne.mpr c14
            obtain rfl := Option.some.inj H
            go_enter Try.func16, Try.ntmps16
            go_wp2_with (first | ((with_reducible refine gate_callee (f := 39) rfl ?_); refine goesL_ (some 13) rfl rfl Try.func39 (by kernel_rfl) rfl #[.int .i64 a0, .int .i64 a1] rfl (by (try simp only [List.map_toArray, List.map_cons, List.map_nil]); first | done | rfl | (simp only [List.length_drop, List.length_take]; rfl)) ?_; (with_reducible refine (impl_bothNumbers.calls a0 a1 true _ A6.out).mono ?_); rintro e w' ⟨rfl, ⟨nd, rfl⟩⟩; refine ⟨_, rfl, ?_⟩) | (go_at_call 40; (with_reducible refine (impl_isNumber.calls a2 true _ A8.out).mono ?_); rintro e w' ⟨rfl, ⟨nd, rfl⟩⟩) | (go_at_call 40; (with_reducible refine (impl_isNumber.calls a3 true _ A10.out).mono ?_); rintro e w' ⟨rfl, ⟨nd, rfl⟩⟩) | (go_at_call 40; (with_reducible refine (impl_isNumber.calls a4 true _ A12.out).mono ?_); rintro e w' ⟨rfl, ⟨nd, rfl⟩⟩))
            go_ret
            exact ⟨by first | rfl | (simp; done) | (simp [*]; done), by repeat (first | exact Drawn0.refl _ | apply Drawn0.step)⟩
        · replace c13 := Bool.eq_false_iff.mpr c13
          subst c13
          have H1 : (some false) = some r := by rw [if_neg (show ¬ (false = true) by decide)] at H; exact H
          clear H
          have H := H1
          clear H1
          obtain rfl := Option.some.inj H
          go_enter Try.func16, Try.ntmps16
          go_wp2_with (first | ((with_reducible refine gate_callee (f := 39) rfl ?_); refine goesL_ (some 13) rfl rfl Try.func39 (by kernel_rfl) rfl #[.int .i64 a0, .int .i64 a1] rfl (by (try simp only [List.map_toArray, List.map_cons, List.map_nil]); first | done | rfl | (simp only [List.length_drop, List.length_take]; rfl)) ?_; (with_reducible refine (impl_bothNumbers.calls a0 a1 true _ A6.out).mono ?_); rintro e w' ⟨rfl, ⟨nd, rfl⟩⟩; refine ⟨_, rfl, ?_⟩) | (go_at_call 40; (with_reducible refine (impl_isNumber.calls a2 true _ A8.out).mono ?_); rintro e w' ⟨rfl, ⟨nd, rfl⟩⟩) | (go_at_call 40; (with_reducible refine (impl_isNumber.calls a3 true _ A10.out).mono ?_); rintro e w' ⟨rfl, ⟨nd, rfl⟩⟩) | (go_at_call 40; (with_reducible refine (impl_isNumber.calls a4 false _ A12.out).mono ?_); rintro e w' ⟨rfl, ⟨nd, rfl⟩⟩))
          go_ret
          exact ⟨by first | rfl | (simp; done) | (simp [*]; done), by repeat (first | exact Drawn0.refl _ | apply Drawn0.step)⟩
      · replace c11 := Bool.eq_false_iff.mpr c11
        subst c11
        have H1 : (some false) = some r := by rw [if_neg (show ¬ (false = true) by decide)] at H; exact H
        clear H
        have H := H1
        clear H1
        obtain rfl := Option.some.inj H
        go_enter Try.func16, Try.ntmps16
        go_wp2_with (first | ((with_reducible refine gate_callee (f := 39) rfl ?_); refine goesL_ (some 13) rfl rfl Try.func39 (by kernel_rfl) rfl #[.int .i64 a0, .int .i64 a1] rfl (by (try simp only [List.map_toArray, List.map_cons, List.map_nil]); first | done | rfl | (simp only [List.length_drop, List.length_take]; rfl)) ?_; (with_reducible refine (impl_bothNumbers.calls a0 a1 true _ A6.out).mono ?_); rintro e w' ⟨rfl, ⟨nd, rfl⟩⟩; refine ⟨_, rfl, ?_⟩) | (go_at_call 40; (with_reducible refine (impl_isNumber.calls a2 true _ A8.out).mono ?_); rintro e w' ⟨rfl, ⟨nd, rfl⟩⟩) | (go_at_call 40; (with_reducible refine (impl_isNumber.calls a3 false _ A10.out).mono ?_); rintro e w' ⟨rfl, ⟨nd, rfl⟩⟩))
        go_ret
        exact ⟨by first | rfl | (simp; done) | (simp [*]; done), by repeat (first | exact Drawn0.refl _ | apply Drawn0.step)⟩
    · replace c9 := Bool.eq_false_iff.mpr c9
      subst c9
      have H1 : (some false) = some r := by rw [if_neg (show ¬ (false = true) by decide)] at H; exact H
      clear H
      have H := H1
      clear H1
      obtain rfl := Option.some.inj H
      go_enter Try.func16, Try.ntmps16
      go_wp2_with (first | ((with_reducible refine gate_callee (f := 39) rfl ?_); refine goesL_ (some 13) rfl rfl Try.func39 (by kernel_rfl) rfl #[.int .i64 a0, .int .i64 a1] rfl (by (try simp only [List.map_toArray, List.map_cons, List.map_nil]); first | done | rfl | (simp only [List.length_drop, List.length_take]; rfl)) ?_; (with_reducible refine (impl_bothNumbers.calls a0 a1 true _ A6.out).mono ?_); rintro e w' ⟨rfl, ⟨nd, rfl⟩⟩; refine ⟨_, rfl, ?_⟩) | (go_at_call 40; (with_reducible refine (impl_isNumber.calls a2 false _ A8.out).mono ?_); rintro e w' ⟨rfl, ⟨nd, rfl⟩⟩))
      go_ret
      exact ⟨by first | rfl | (simp; done) | (simp [*]; done), by repeat (first | exact Drawn0.refl _ | apply Drawn0.step)⟩
  · replace c7 := Bool.eq_false_iff.mpr c7
    subst c7
    have H1 : (some false) = some r := by rw [if_neg (show ¬ (false = true) by decide)] at H; exact H
    clear H
    have H := H1
    clear H1
    obtain rfl := Option.some.inj H
    go_enter Try.func16, Try.ntmps16
    go_wp2_with (first | ((with_reducible refine gate_callee (f := 39) rfl ?_); refine goesL_ (some 13) rfl rfl Try.func39 (by kernel_rfl) rfl #[.int .i64 a0, .int .i64 a1] rfl (by (try simp only [List.map_toArray, List.map_cons, List.map_nil]); first | done | rfl | (simp only [List.length_drop, List.length_take]; rfl)) ?_; (with_reducible refine (impl_bothNumbers.calls a0 a1 false _ A6.out).mono ?_); rintro e w' ⟨rfl, ⟨nd, rfl⟩⟩; refine ⟨_, rfl, ?_⟩))
    go_ret
    exact ⟨by first | rfl | (simp; done) | (simp [*]; done), by repeat (first | exact Drawn0.refl _ | apply Drawn0.step)⟩

/-! ### laws_FnExactSymbolSolved: function 4 -/
def laws_FnExactSymbolSolved.f (a0 : Int) (a1 : Int) (a2 : Int) (a3 : Int) (a4 : Int) : Option (Bool) := (spec_SymbolSolved.f a0 a1 a2 a3 a4).bind fun t114 => ((impl_SymbolSolved.f a0 a1 a2 a3 a4).bind fun t115 => (if (t115 != t114) = true then (some false) else (some true)))
set_option maxHeartbeats 8000000 in
set_option maxRecDepth 100000 in
theorem laws_FnExactSymbolSolved.calls (a0 : Int) (a1 : Int) (a2 : Int) (a3 : Int) (a4 : Int) (r : Bool) (w : World) (h : laws_FnExactSymbolSolved.f a0 a1 a2 a3 a4 = some r) :
    Calls Try.prog 4 #[.int .i64 a0, .int .i64 a1, .int .i64 a2, .int .i64 a3, .int .i64 a4] w fun e w' => e = .returned (.bool r) ∧ Drawn0 w w' := by
  have H : ((spec_SymbolSolved.f a0 a1 a2 a3 a4).bind fun t114 => ((impl_SymbolSolved.f a0 a1 a2 a3 a4).bind fun t115 => (if (t115 != t114) = true then (some false) else (some true)))) = some r := h
  clear h
  replace H := Option.bind_eq_some_iff.mp H
  obtain ⟨t114, A60, H⟩ := H
  replace H : ((impl_SymbolSolved.f a0 a1 a2 a3 a4).bind fun t115 => (if (t115 != t114) = true then (some false) else (some true))) = some r := H
  have A6 := Aside0.mk A60
  clear A60
  replace H := Option.bind_eq_some_iff.mp H
  obtain ⟨t115, A70, H⟩ := H
  replace H : (if (t115 != t114) = true then (some false) else (some true)) = some r := H
  have A7 := Aside0.mk A70
  clear A70
  by_cases c8 : (t115 != t114) = true
  · rw [if_pos c8] at H
    have c8b0 : (t115 != t114) = true := c8
    (try (have c8b1 : decide (t115 = t114) = false := by simpa using c8))
    (try (have c8b2 : (t115 == t114) = false := by simpa using c8))
    (try (have c8b3 : ¬ (t115 = t114) := by simpa using c8))
    clear c8
    obtain rfl := Option.some.inj H
    go_enter Try.func4, Try.ntmps4
    go_wp2_with (first | ((with_reducible refine gate_callee (f := 15) rfl ?_); refine goesL_ (some 18) rfl rfl Try.func15 (by kernel_rfl) rfl #[.int .i64 a0, .int .i64 a1, .int .i64 a2, .int .i64 a3, .int .i64 a4] rfl (by (try simp only [List.map_toArray, List.map_cons, List.map_nil]); first | done | rfl | (simp only [List.length_drop, List.length_take]; rfl)) ?_; (with_reducible refine (spec_SymbolSolved.calls a0 a1 a2 a3 a4 t114 _ A6.out).mono ?_); rintro e w' ⟨rfl, ⟨nd, rfl⟩⟩; refine ⟨_, rfl, ?_⟩) | ((with_reducible refine gate_callee (f := 16) rfl ?_); refine goesL_ (some 24) rfl rfl Try.func16 (by kernel_rfl) rfl #[.int .i64 a0, .int .i64 a1, .int .i64 a2, .int .i64 a3, .int .i64 a4] rfl (by (try simp only [List.map_toArray, List.map_cons, List.map_nil]); first | done | rfl | (simp only [List.length_drop, List.length_take]; rfl)) ?_; (with_reducible refine (impl_SymbolSolved.calls a0 a1 a2 a3 a4 t115 _ A7.out).mono ?_); rintro e w' ⟨rfl, ⟨nd, rfl⟩⟩; refine ⟨_, rfl, ?_⟩))
    go_ret
    exact ⟨by first | rfl | (simp; done) | (simp [*]; done), by repeat (first | exact Drawn0.refl _ | apply Drawn0.step)⟩
  · rw [if_neg c8] at H
    have c8b0 : (t115 != t114) = false := by simpa using c8
    (try (have c8b1 : decide (t115 = t114) = true := by simpa using c8))
    (try (have c8b2 : (t115 == t114) = true := by simpa using c8))
    clear c8
    obtain rfl := Option.some.inj H
    go_enter Try.func4, Try.ntmps4
    go_wp2_with (first | ((with_reducible refine gate_callee (f := 15) rfl ?_); refine goesL_ (some 18) rfl rfl Try.func15 (by kernel_rfl) rfl #[.int .i64 a0, .int .i64 a1, .int .i64 a2, .int .i64 a3, .int .i64 a4] rfl (by (try simp only [List.map_toArray, List.map_cons, List.map_nil]); first | done | rfl | (simp only [List.length_drop, List.length_take]; rfl)) ?_; (with_reducible refine (spec_SymbolSolved.calls a0 a1 a2 a3 a4 t114 _ A6.out).mono ?_); rintro e w' ⟨rfl, ⟨nd, rfl⟩⟩; refine ⟨_, rfl, ?_⟩) | ((with_reducible refine gate_callee (f := 16) rfl ?_); refine goesL_ (some 24) rfl rfl Try.func16 (by kernel_rfl) rfl #[.int .i64 a0, .int .i64 a1, .int .i64 a2, .int .i64 a3, .int .i64 a4] rfl (by (try simp only [List.map_toArray, List.map_cons, List.map_nil]); first | done | rfl | (simp only [List.length_drop, List.length_take]; rfl)) ?_; (with_reducible refine (impl_SymbolSolved.calls a0 a1 a2 a3 a4 t115 _ A7.out).mono ?_); rintro e w' ⟨rfl, ⟨nd, rfl⟩⟩; refine ⟨_, rfl, ?_⟩))
    go_ret
    exact ⟨by first | rfl | (simp; done) | (simp [*]; done), by repeat (first | exact Drawn0.refl _ | apply Drawn0.step)⟩

/-- THE ONE PURE STATEMENT of laws_FnExactSymbolSolved: yours. -/
def laws_FnExactSymbolSolved.Pure : Prop := ∀ (a0 : Int) (a1 : Int) (a2 : Int) (a3 : Int) (a4 : Int), (Lit.int .i64 a0).wf = true → (Lit.int .i64 a1).wf = true → (Lit.int .i64 a2).wf = true → (Lit.int .i64 a3).wf = true → (Lit.int .i64 a4).wf = true → laws_FnExactSymbolSolved.f a0 a1 a2 a3 a4 = some true
theorem laws_FnExactSymbolSolved.walk (P : laws_FnExactSymbolSolved.Pure) (a0 : Int) (a1 : Int) (a2 : Int) (a3 : Int) (a4 : Int) (w : World) (w0 : (Lit.int .i64 a0).wf = true) (w1 : (Lit.int .i64 a1).wf = true) (w2 : (Lit.int .i64 a2).wf = true) (w3 : (Lit.int .i64 a3).wf = true) (w4 : (Lit.int .i64 a4).wf = true) :
    Calls Try.prog 4 #[.int .i64 a0, .int .i64 a1, .int .i64 a2, .int .i64 a3, .int .i64 a4] w fun e w' => e = .returned (.bool true) ∧ Below w.heap.size w w' := by
  have h := P a0 a1 a2 a3 a4 w0 w1 w2 w3 w4
  refine (laws_FnExactSymbolSolved.calls a0 a1 a2 a3 a4 true w h).mono ?_
  rintro e w' ⟨rfl, hd⟩
  exact ⟨rfl, hd.below⟩

end Go.Proofs.Ytndclhdlkhdlmaa.PFnExactSymbolSolved
