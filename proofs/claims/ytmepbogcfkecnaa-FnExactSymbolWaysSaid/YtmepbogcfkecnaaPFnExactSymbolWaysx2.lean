-- PRINTED BY print.sh 35421559b90ae4d0a3588c463048766b98c2df88dd9212a6774a882060cdf62d: not written by this session
import Derived.Test.YtmepbogcfkecnaaPFnExactSymbolWaysx0
import Derived.Test.YtmepbogcfkecnaaPFnExactSymbolWaysx1
namespace Go.Proofs.Ytmepbogcfkecnaa.PFnExactSymbolWays
open Go.RowKit Go.Proofs.YtmepbogcfkecnaaW.PrintWords Go.Proofs.YtmepbogcfkecnaaW.PrintLast Go.Proofs.YtmepbogcfkecnaaW.PrintMore
attribute [local go_sem] max2_int min2_int max_two min_two max_three min_three max_four min_four   -- for this text's walks alone
set_option linter.unusedVariables false
set_option linter.unusedSimpArgs false

/-! ### impl_waysModulo: function 65 -/
mutual
def impl_waysModulo.l0 : Nat → Int → Int → Int → Int → Int → Int → Int → Option (Int)
  | 0, _, _, _, _, _, _, _ => none
  | k + 1, x0, x1, x2, x3, x9, x13, x14 => if x14 < x13 then (impl_waysModulo.l1 k x0 x1 x2 x3 x9 x14 x13 x14 x3 0) else (some x9)
def impl_waysModulo.l1 : Nat → Int → Int → Int → Int → Int → Int → Int → Int → Int → Int → Option (Int)
  | 0, _, _, _, _, _, _, _, _, _, _ => none
  | k + 1, x0, x1, x2, x3, x9, x10, x13, x14, x17, x18 => if x18 < x17 then (impl_waysModulo.l2 k x0 x1 x2 x3 x9 x10 x18 x13 x14 x17 x18 x3 0) else (impl_waysModulo.l0 k x0 x1 x2 x3 x9 x13 (wrap64 (x14 + 1)))
def impl_waysModulo.l2 : Nat → Int → Int → Int → Int → Int → Int → Int → Int → Int → Int → Int → Int → Int → Option (Int)
  | 0, _, _, _, _, _, _, _, _, _, _, _, _, _ => none
  | k + 1, x0, x1, x2, x3, x9, x10, x11, x13, x14, x17, x18, x21, x22 => if x22 < x21 then (if x2 = 0 then (none) else (if (Int.tmod x10 x2) = 0 then (if (Int.tmod x11 x2) = 0 then (if (Int.tmod x22 x2) = 0 then (impl_waysModulo.l2 k x0 x1 x2 x3 x9 x10 x11 x13 x14 x17 x18 x21 (wrap64 (x22 + 1))) else ((impl_rest.f (wrap64 ((wrap64 ((wrap64 (x22 * x22)) - (wrap64 ((wrap64 (x0 * x10)) * x10)))) - (wrap64 ((wrap64 (x1 * x11)) * x11)))) x3).bind fun t111 => (if t111 = 0 then (impl_waysModulo.l2 k x0 x1 x2 x3 (wrap64 (x9 + 1)) x10 x11 x13 x14 x17 x18 x21 (wrap64 (x22 + 1))) else (impl_waysModulo.l2 k x0 x1 x2 x3 x9 x10 x11 x13 x14 x17 x18 x21 (wrap64 (x22 + 1)))))) else ((impl_rest.f (wrap64 ((wrap64 ((wrap64 (x22 * x22)) - (wrap64 ((wrap64 (x0 * x10)) * x10)))) - (wrap64 ((wrap64 (x1 * x11)) * x11)))) x3).bind fun t112 => (if t112 = 0 then (impl_waysModulo.l2 k x0 x1 x2 x3 (wrap64 (x9 + 1)) x10 x11 x13 x14 x17 x18 x21 (wrap64 (x22 + 1))) else (impl_waysModulo.l2 k x0 x1 x2 x3 x9 x10 x11 x13 x14 x17 x18 x21 (wrap64 (x22 + 1)))))) else ((impl_rest.f (wrap64 ((wrap64 ((wrap64 (x22 * x22)) - (wrap64 ((wrap64 (x0 * x10)) * x10)))) - (wrap64 ((wrap64 (x1 * x11)) * x11)))) x3).bind fun t113 => (if t113 = 0 then (impl_waysModulo.l2 k x0 x1 x2 x3 (wrap64 (x9 + 1)) x10 x11 x13 x14 x17 x18 x21 (wrap64 (x22 + 1))) else (impl_waysModulo.l2 k x0 x1 x2 x3 x9 x10 x11 x13 x14 x17 x18 x21 (wrap64 (x22 + 1))))))) else (impl_waysModulo.l1 k x0 x1 x2 x3 x9 x10 x13 x14 x17 (wrap64 (x18 + 1)))
end
def impl_waysModulo.f (k : Nat) (a0 : Int) (a1 : Int) (a2 : Int) (a3 : Int) : Option (Int) := impl_waysModulo.l0 k a0 a1 a2 a3 0 a3 0
theorem impl_waysModulo.mono_l : ∀ k, (∀ y0 y1 y2 y3 y4 y5 y6, LeO (impl_waysModulo.l0 k y0 y1 y2 y3 y4 y5 y6) (impl_waysModulo.l0 (k + 1) y0 y1 y2 y3 y4 y5 y6)) ∧ (∀ y0 y1 y2 y3 y4 y5 y6 y7 y8 y9, LeO (impl_waysModulo.l1 k y0 y1 y2 y3 y4 y5 y6 y7 y8 y9) (impl_waysModulo.l1 (k + 1) y0 y1 y2 y3 y4 y5 y6 y7 y8 y9)) ∧ (∀ y0 y1 y2 y3 y4 y5 y6 y7 y8 y9 y10 y11 y12, LeO (impl_waysModulo.l2 k y0 y1 y2 y3 y4 y5 y6 y7 y8 y9 y10 y11 y12) (impl_waysModulo.l2 (k + 1) y0 y1 y2 y3 y4 y5 y6 y7 y8 y9 y10 y11 y12))
  | 0 => ⟨fun _ _ _ _ _ _ _ r h => by simp [impl_waysModulo.l0] at h, fun _ _ _ _ _ _ _ _ _ _ r h => by simp [impl_waysModulo.l1] at h, fun _ _ _ _ _ _ _ _ _ _ _ _ _ r h => by simp [impl_waysModulo.l2] at h⟩
  | k + 1 => by
    obtain ⟨ih0, ih1, ih2⟩ := impl_waysModulo.mono_l k
    refine ⟨?_, ?_, ?_⟩
    · intro y0 y1 y2 y3 y4 y5 y6
      unfold impl_waysModulo.l0
      repeat' first
      | (with_reducible exact ih0 _ _ _ _ _ _ _)
      | (with_reducible exact ih1 _ _ _ _ _ _ _ _ _ _)
      | (with_reducible exact ih2 _ _ _ _ _ _ _ _ _ _ _ _ _)
      | (with_reducible exact LeO.refl _)
      | (with_reducible exact LeO.none _)
      | (with_reducible refine LeO.ite ?_ ?_)
      | (with_reducible refine LeO.bind ?_ (fun _ => ?_))
      | exact ih0 _ _ _ _ _ _ _
      | exact ih1 _ _ _ _ _ _ _ _ _ _
      | exact ih2 _ _ _ _ _ _ _ _ _ _ _ _ _
      | exact LeO.none _
      | refine LeO.ite ?_ ?_
      | refine LeO.bind ?_ (fun _ => ?_)
    · intro y0 y1 y2 y3 y4 y5 y6 y7 y8 y9
      unfold impl_waysModulo.l1
      repeat' first
      | (with_reducible exact ih0 _ _ _ _ _ _ _)
      | (with_reducible exact ih1 _ _ _ _ _ _ _ _ _ _)
      | (with_reducible exact ih2 _ _ _ _ _ _ _ _ _ _ _ _ _)
      | (with_reducible exact LeO.refl _)
      | (with_reducible exact LeO.none _)
      | (with_reducible refine LeO.ite ?_ ?_)
      | (with_reducible refine LeO.bind ?_ (fun _ => ?_))
      | exact ih0 _ _ _ _ _ _ _
      | exact ih1 _ _ _ _ _ _ _ _ _ _
      | exact ih2 _ _ _ _ _ _ _ _ _ _ _ _ _
      | exact LeO.none _
      | refine LeO.ite ?_ ?_
      | refine LeO.bind ?_ (fun _ => ?_)
    · intro y0 y1 y2 y3 y4 y5 y6 y7 y8 y9 y10 y11 y12
      unfold impl_waysModulo.l2
      repeat' first
      | (with_reducible exact ih0 _ _ _ _ _ _ _)
      | (with_reducible exact ih1 _ _ _ _ _ _ _ _ _ _)
      | (with_reducible exact ih2 _ _ _ _ _ _ _ _ _ _ _ _ _)
      | (with_reducible exact LeO.refl _)
      | (with_reducible exact LeO.none _)
      | (with_reducible refine LeO.ite ?_ ?_)
      | (with_reducible refine LeO.bind ?_ (fun _ => ?_))
      | exact ih0 _ _ _ _ _ _ _
      | exact ih1 _ _ _ _ _ _ _ _ _ _
      | exact ih2 _ _ _ _ _ _ _ _ _ _ _ _ _
      | exact LeO.none _
      | refine LeO.ite ?_ ?_
      | refine LeO.bind ?_ (fun _ => ?_)
theorem impl_waysModulo.mono : ∀ a0 a1 a2 a3 k, LeO (impl_waysModulo.f k a0 a1 a2 a3) (impl_waysModulo.f (k + 1) a0 a1 a2 a3) := by
  intro a0 a1 a2 a3 k
  obtain ⟨ih0, ih1, ih2⟩ := impl_waysModulo.mono_l k
  unfold impl_waysModulo.f
  repeat' first
      | (with_reducible exact ih0 _ _ _ _ _ _ _)
      | (with_reducible exact ih1 _ _ _ _ _ _ _ _ _ _)
      | (with_reducible exact ih2 _ _ _ _ _ _ _ _ _ _ _ _ _)
      | (with_reducible exact LeO.refl _)
      | (with_reducible exact LeO.none _)
      | (with_reducible refine LeO.ite ?_ ?_)
      | (with_reducible refine LeO.bind ?_ (fun _ => ?_))
      | exact ih0 _ _ _ _ _ _ _
      | exact ih1 _ _ _ _ _ _ _ _ _ _
      | exact ih2 _ _ _ _ _ _ _ _ _ _ _ _ _
      | exact LeO.none _
      | refine LeO.ite ?_ ?_
      | refine LeO.bind ?_ (fun _ => ?_)
set_option maxHeartbeats 8000000 in
set_option maxRecDepth 100000 in
theorem impl_waysModulo.calls (k : Nat) (a0 : Int) (a1 : Int) (a2 : Int) (a3 : Int) (r : Int) (w : World) (h : impl_waysModulo.f k a0 a1 a2 a3 = some r) :
    Calls Try.prog 65 #[.int .i64 a0, .int .i64 a1, .int .i64 a2, .int .i64 a3] w fun e w' => e = .returned (.int .i64 r) ∧ Drawn0 w w' := by
  have H : (impl_waysModulo.l0 k a0 a1 a2 a3 0 a3 0) = some r := h
  clear h
  have H' := Aside0.mk H
  clear H
  go_enter Try.func65, Try.ntmps65
  go_wp2
  go_loopg [9, 14] k (fun kq v9 v14 w' => ∃ (x9_1 : Int) (x14_1 : Int), v9 = .int .i64 x9_1 ∧ v14 = .int .i64 x14_1 ∧ Aside0 (impl_waysModulo.l0 kq a0 a1 a2 a3 x9_1 a3 x14_1 = some r) ∧ Aside0 (kq ≤ k) ∧ Drawn0 w w')
  case atStart => exact ⟨(0), (0), (by first | rfl | (simp; done) | (simp [*]; done)), (by first | rfl | (simp; done) | (simp [*]; done)), H', ⟨Nat.le_refl _⟩, by repeat (first | exact Drawn0.refl _ | apply Drawn0.step)⟩
  case round =>
    clear H'
    try clear p2
    obtain ⟨x9_1, x14_1, rfl, rfl, HA, HK1, ⟨m1, rfl⟩⟩ := hrel
    cases gk with
    | zero => exact absurd HA.out (by simp [impl_waysModulo.l0])
    | succ k1 =>
      have H := HA.out
      clear HA
      simp only [impl_waysModulo.l0] at H
      by_cases c5 : x14_1 < a3
      · rw [if_pos c5] at H
        have c5b0 : decide (x14_1 < a3) = true := decide_eq_true c5
        clear c5
        have H' := Aside0.mk H
        clear H
        go_wp2
        go_loopg [9, 18] k1 (fun kq v9 v18 w' => ∃ (x9_2 : Int) (x18_2 : Int), v9 = .int .i64 x9_2 ∧ v18 = .int .i64 x18_2 ∧ Aside0 (impl_waysModulo.l1 kq a0 a1 a2 a3 x9_2 x14_1 a3 x14_1 a3 x18_2 = some r) ∧ Aside0 (kq ≤ k1) ∧ Drawn0 w w')
        case atStart => exact ⟨(x9_1), (0), (by first | rfl | (simp; done) | (simp [*]; done)), (by first | rfl | (simp; done) | (simp [*]; done)), H', ⟨Nat.le_refl _⟩, by repeat (first | exact Drawn0.refl _ | apply Drawn0.step)⟩
        case round =>
          clear H'
          try clear p2
          try clear c5
          try clear c5b0
          try clear p2
          obtain ⟨x9_2, x18_2, rfl, rfl, HA, HK2, ⟨m2, rfl⟩⟩ := hrel
          cases gk with
          | zero => exact absurd HA.out (by simp [impl_waysModulo.l1])
          | succ k2 =>
            have H := HA.out
            clear HA
            simp only [impl_waysModulo.l1] at H
            by_cases c6 : x18_2 < a3
            · rw [if_pos c6] at H
              have c6b0 : decide (x18_2 < a3) = true := decide_eq_true c6
              clear c6
              have H' := Aside0.mk H
              clear H
              go_wp2
              go_loopg [9, 22] k2 (fun kq v9 v22 w' => ∃ (x9_3 : Int) (x22_3 : Int), v9 = .int .i64 x9_3 ∧ v22 = .int .i64 x22_3 ∧ Aside0 (impl_waysModulo.l2 kq a0 a1 a2 a3 x9_3 x14_1 x18_2 a3 x14_1 a3 x18_2 a3 x22_3 = some r) ∧ Aside0 (kq ≤ k2) ∧ Drawn0 w w')
              case atStart => exact ⟨(x9_2), (0), (by first | rfl | (simp; done) | (simp [*]; done)), (by first | rfl | (simp; done) | (simp [*]; done)), H', ⟨Nat.le_refl _⟩, by repeat (first | exact Drawn0.refl _ | apply Drawn0.step)⟩
              case round =>
                clear H'
                try clear p2
                try clear c5
                try clear c5b0
                try clear c6
                try clear c6b0
                try clear p2
                obtain ⟨x9_3, x22_3, rfl, rfl, HA, HK3, ⟨m3, rfl⟩⟩ := hrel
                cases gk with
                | zero => exact absurd HA.out (by simp [impl_waysModulo.l2])
                | succ k3 =>
                  have H := HA.out
                  clear HA
                  simp only [impl_waysModulo.l2] at H
                  by_cases c7 : x22_3 < a3
                  · rw [if_pos c7] at H
                    have c7b0 : decide (x22_3 < a3) = true := decide_eq_true c7
                    clear c7
                    by_cases c8 : a2 = 0
                    · rw [if_pos c8] at H
                      exact absurd H (by simp)
                    · rw [if_neg c8] at H
                      have c8b0 : (a2 == 0) = false := beq_eq_false_iff_ne.mpr c8
                      have c8b1 : (a2 != 0) = true := bne_iff_ne.mpr c8
                      by_cases c9 : (Int.tmod x14_1 a2) = 0
                      · rw [if_pos c9] at H
                        have c9b0 : ((Int.tmod x14_1 a2) == 0) = true := beq_iff_eq.mpr c9
                        have c9b1 : ((Int.tmod x14_1 a2) != 0) = false := bne_eq_false_iff_eq.mpr c9
                        clear c9
                        by_cases c10 : (Int.tmod x18_2 a2) = 0
                        · rw [if_pos c10] at H
                          have c10b0 : ((Int.tmod x18_2 a2) == 0) = true := beq_iff_eq.mpr c10
                          have c10b1 : ((Int.tmod x18_2 a2) != 0) = false := bne_eq_false_iff_eq.mpr c10
                          clear c10
                          by_cases c11 : (Int.tmod x22_3 a2) = 0
                          · rw [if_pos c11] at H
                            have c11b0 : ((Int.tmod x22_3 a2) == 0) = true := beq_iff_eq.mpr c11
                            have c11b1 : ((Int.tmod x22_3 a2) != 0) = false := bne_eq_false_iff_eq.mpr c11
                            clear c11
                            have H' := Aside0.mk H
                            clear H
                            go_wp2
                            go_roundg k3
                            case measure => have := HK1.out; have := HK2.out; have := HK3.out; omega
                            case rel => exact ⟨(x9_3), (wrap64 (x22_3 + 1)), (by first | rfl | (simp; done) | (simp [*]; done)), (by first | rfl | (simp; done) | (simp [*]; done)), H', ⟨by have := HK1.out; have := HK2.out; have := HK3.out; omega⟩, by repeat (first | exact Drawn0.refl _ | apply Drawn0.step)⟩
                          · rw [if_neg c11] at H
                            have c11b0 : ((Int.tmod x22_3 a2) == 0) = false := beq_eq_false_iff_ne.mpr c11
                            have c11b1 : ((Int.tmod x22_3 a2) != 0) = true := bne_iff_ne.mpr c11
                            replace H := Option.bind_eq_some_iff.mp H
                            obtain ⟨t111, A120, H⟩ := H
                            replace H : (if t111 = 0 then (impl_waysModulo.l2 k3 a0 a1 a2 a3 (wrap64 (x9_3 + 1)) x14_1 x18_2 a3 x14_1 a3 x18_2 a3 (wrap64 (x22_3 + 1))) else (impl_waysModulo.l2 k3 a0 a1 a2 a3 x9_3 x14_1 x18_2 a3 x14_1 a3 x18_2 a3 (wrap64 (x22_3 + 1)))) = some r := H
                            have A12 := Aside0.mk A120
                            clear A120
                            by_cases c13 : t111 = 0
                            · rw [if_pos c13] at H
                              have c13b0 : (t111 == 0) = true := beq_iff_eq.mpr c13
                              have c13b1 : (t111 != 0) = false := bne_eq_false_iff_eq.mpr c13
                              clear c13
                              have H' := Aside0.mk H
                              clear H
                              go_wp2_with (first | (go_at_call 73; (with_reducible refine (impl_rest.calls (wrap64 ((wrap64 ((wrap64 (x22_3 * x22_3)) - (wrap64 ((wrap64 (a0 * x14_1)) * x14_1)))) - (wrap64 ((wrap64 (a1 * x18_2)) * x18_2)))) a3 t111 _ A12.out).mono ?_); rintro e w' ⟨rfl, ⟨nd, rfl⟩⟩))
                              go_roundg k3
                              case measure => have := HK1.out; have := HK2.out; have := HK3.out; omega
                              case rel => exact ⟨(wrap64 (x9_3 + 1)), (wrap64 (x22_3 + 1)), (by first | rfl | (simp; done) | (simp [*]; done)), (by first | rfl | (simp; done) | (simp [*]; done)), H', ⟨by have := HK1.out; have := HK2.out; have := HK3.out; omega⟩, by repeat (first | exact Drawn0.refl _ | apply Drawn0.step)⟩
                            · rw [if_neg c13] at H
                              have c13b0 : (t111 == 0) = false := beq_eq_false_iff_ne.mpr c13
                              have c13b1 : (t111 != 0) = true := bne_iff_ne.mpr c13
                              have H' := Aside0.mk H
                              clear H
                              go_wp2_with (first | (go_at_call 73; (with_reducible refine (impl_rest.calls (wrap64 ((wrap64 ((wrap64 (x22_3 * x22_3)) - (wrap64 ((wrap64 (a0 * x14_1)) * x14_1)))) - (wrap64 ((wrap64 (a1 * x18_2)) * x18_2)))) a3 t111 _ A12.out).mono ?_); rintro e w' ⟨rfl, ⟨nd, rfl⟩⟩))
                              go_roundg k3
                              case measure => have := HK1.out; have := HK2.out; have := HK3.out; omega
                              case rel => exact ⟨(x9_3), (wrap64 (x22_3 + 1)), (by first | rfl | (simp; done) | (simp [*]; done)), (by first | rfl | (simp; done) | (simp [*]; done)), H', ⟨by have := HK1.out; have := HK2.out; have := HK3.out; omega⟩, by repeat (first | exact Drawn0.refl _ | apply Drawn0.step)⟩
                        · rw [if_neg c10] at H
                          have c10b0 : ((Int.tmod x18_2 a2) == 0) = false := beq_eq_false_iff_ne.mpr c10
                          have c10b1 : ((Int.tmod x18_2 a2) != 0) = true := bne_iff_ne.mpr c10
                          replace H := Option.bind_eq_some_iff.mp H
                          obtain ⟨t112, A140, H⟩ := H
                          replace H : (if t112 = 0 then (impl_waysModulo.l2 k3 a0 a1 a2 a3 (wrap64 (x9_3 + 1)) x14_1 x18_2 a3 x14_1 a3 x18_2 a3 (wrap64 (x22_3 + 1))) else (impl_waysModulo.l2 k3 a0 a1 a2 a3 x9_3 x14_1 x18_2 a3 x14_1 a3 x18_2 a3 (wrap64 (x22_3 + 1)))) = some r := H
                          have A14 := Aside0.mk A140
                          clear A140
                          by_cases c15 : t112 = 0
                          · rw [if_pos c15] at H
                            have c15b0 : (t112 == 0) = true := beq_iff_eq.mpr c15
                            have c15b1 : (t112 != 0) = false := bne_eq_false_iff_eq.mpr c15
                            clear c15
                            have H' := Aside0.mk H
                            clear H
                            go_wp2_with (first | (go_at_call 73; (with_reducible refine (impl_rest.calls (wrap64 ((wrap64 ((wrap64 (x22_3 * x22_3)) - (wrap64 ((wrap64 (a0 * x14_1)) * x14_1)))) - (wrap64 ((wrap64 (a1 * x18_2)) * x18_2)))) a3 t112 _ A14.out).mono ?_); rintro e w' ⟨rfl, ⟨nd, rfl⟩⟩))
                            go_roundg k3
                            case measure => have := HK1.out; have := HK2.out; have := HK3.out; omega
                            case rel => exact ⟨(wrap64 (x9_3 + 1)), (wrap64 (x22_3 + 1)), (by first | rfl | (simp; done) | (simp [*]; done)), (by first | rfl | (simp; done) | (simp [*]; done)), H', ⟨by have := HK1.out; have := HK2.out; have := HK3.out; omega⟩, by repeat (first | exact Drawn0.refl _ | apply Drawn0.step)⟩
                          · rw [if_neg c15] at H
                            have c15b0 : (t112 == 0) = false := beq_eq_false_iff_ne.mpr c15
                            have c15b1 : (t112 != 0) = true := bne_iff_ne.mpr c15
                            have H' := Aside0.mk H
                            clear H
                            go_wp2_with (first | (go_at_call 73; (with_reducible refine (impl_rest.calls (wrap64 ((wrap64 ((wrap64 (x22_3 * x22_3)) - (wrap64 ((wrap64 (a0 * x14_1)) * x14_1)))) - (wrap64 ((wrap64 (a1 * x18_2)) * x18_2)))) a3 t112 _ A14.out).mono ?_); rintro e w' ⟨rfl, ⟨nd, rfl⟩⟩))
                            go_roundg k3
                            case measure => have := HK1.out; have := HK2.out; have := HK3.out; omega
                            case rel => exact ⟨(x9_3), (wrap64 (x22_3 + 1)), (by first | rfl | (simp; done) | (simp [*]; done)), (by first | rfl | (simp; done) | (simp [*]; done)), H', ⟨by have := HK1.out; have := HK2.out; have := HK3.out; omega⟩, by repeat (first | exact Drawn0.refl _ | apply Drawn0.step)⟩
                      · rw [if_neg c9] at H
                        have c9b0 : ((Int.tmod x14_1 a2) == 0) = false := beq_eq_false_iff_ne.mpr c9
                        have c9b1 : ((Int.tmod x14_1 a2) != 0) = true := bne_iff_ne.mpr c9
                        replace H := Option.bind_eq_some_iff.mp H
                        obtain ⟨t113, A160, H⟩ := H
                        replace H : (if t113 = 0 then (impl_waysModulo.l2 k3 a0 a1 a2 a3 (wrap64 (x9_3 + 1)) x14_1 x18_2 a3 x14_1 a3 x18_2 a3 (wrap64 (x22_3 + 1))) else (impl_waysModulo.l2 k3 a0 a1 a2 a3 x9_3 x14_1 x18_2 a3 x14_1 a3 x18_2 a3 (wrap64 (x22_3 + 1)))) = some r := H
                        have A16 := Aside0.mk A160
                        clear A160
                        by_cases c17 : t113 = 0
                        · rw [if_pos c17] at H
                          have c17b0 : (t113 == 0) = true := beq_iff_eq.mpr c17
                          have c17b1 : (t113 != 0) = false := bne_eq_false_iff_eq.mpr c17
                          clear c17
                          have H' := Aside0.mk H
                          clear H
                          go_wp2_with (first | (go_at_call 73; (with_reducible refine (impl_rest.calls (wrap64 ((wrap64 ((wrap64 (x22_3 * x22_3)) - (wrap64 ((wrap64 (a0 * x14_1)) * x14_1)))) - (wrap64 ((wrap64 (a1 * x18_2)) * x18_2)))) a3 t113 _ A16.out).mono ?_); rintro e w' ⟨rfl, ⟨nd, rfl⟩⟩))
                          go_roundg k3
                          case measure => have := HK1.out; have := HK2.out; have := HK3.out; omega
                          case rel => exact ⟨(wrap64 (x9_3 + 1)), (wrap64 (x22_3 + 1)), (by first | rfl | (simp; done) | (simp [*]; done)), (by first | rfl | (simp; done) | (simp [*]; done)), H', ⟨by have := HK1.out; have := HK2.out; have := HK3.out; omega⟩, by repeat (first | exact Drawn0.refl _ | apply Drawn0.step)⟩
                        · rw [if_neg c17] at H
                          have c17b0 : (t113 == 0) = false := beq_eq_false_iff_ne.mpr c17
                          have c17b1 : (t113 != 0) = true := bne_iff_ne.mpr c17
                          have H' := Aside0.mk H
                          clear H
                          go_wp2_with (first | (go_at_call 73; (with_reducible refine (impl_rest.calls (wrap64 ((wrap64 ((wrap64 (x22_3 * x22_3)) - (wrap64 ((wrap64 (a0 * x14_1)) * x14_1)))) - (wrap64 ((wrap64 (a1 * x18_2)) * x18_2)))) a3 t113 _ A16.out).mono ?_); rintro e w' ⟨rfl, ⟨nd, rfl⟩⟩))
                          go_roundg k3
                          case measure => have := HK1.out; have := HK2.out; have := HK3.out; omega
                          case rel => exact ⟨(x9_3), (wrap64 (x22_3 + 1)), (by first | rfl | (simp; done) | (simp [*]; done)), (by first | rfl | (simp; done) | (simp [*]; done)), H', ⟨by have := HK1.out; have := HK2.out; have := HK3.out; omega⟩, by repeat (first | exact Drawn0.refl _ | apply Drawn0.step)⟩
                  · rw [if_neg c7] at H
                    have c7b0 : decide (x22_3 < a3) = false := decide_eq_false c7
                    clear c7
                    have H' := Aside0.mk H
                    clear H
                    go_wp2
                    go_roundg k3
                    case measure => have := HK1.out; have := HK2.out; have := HK3.out; omega
                    case rel => exact ⟨(x9_3), (wrap64 (x18_2 + 1)), (by first | rfl | (simp; done) | (simp [*]; done)), (by first | rfl | (simp; done) | (simp [*]; done)), H', ⟨by have := HK1.out; have := HK2.out; have := HK3.out; omega⟩, by repeat (first | exact Drawn0.refl _ | apply Drawn0.step)⟩
            · rw [if_neg c6] at H
              have c6b0 : decide (x18_2 < a3) = false := decide_eq_false c6
              clear c6
              have H' := Aside0.mk H
              clear H
              go_wp2
              go_roundg k2
              case measure => have := HK1.out; have := HK2.out; omega
              case rel => exact ⟨(x9_2), (wrap64 (x14_1 + 1)), (by first | rfl | (simp; done) | (simp [*]; done)), (by first | rfl | (simp; done) | (simp [*]; done)), H', ⟨by have := HK1.out; have := HK2.out; omega⟩, by repeat (first | exact Drawn0.refl _ | apply Drawn0.step)⟩
      · rw [if_neg c5] at H
        have c5b0 : decide (x14_1 < a3) = false := decide_eq_false c5
        clear c5
        obtain rfl := Option.some.inj H
        go_wp2
        go_ret
        exact ⟨by first | rfl | (simp; done) | (simp [*]; done), by repeat (first | exact Drawn0.refl _ | apply Drawn0.step)⟩

/-! ### impl_SymbolWays: function 22 -/
def impl_SymbolWays.f (k : Nat) (a0 : Int) (a1 : Int) (a2 : Int) : Option (Int) := (impl_bothNumbers.f a0 a1).bind fun t114 => (if t114 = true then ((impl_PrimeIs.f k a2).bind fun t115 => (if t115 = true then (if a2 > 31 then (some (-1)) else ((impl_waysModulo.f k a0 a1 a2 a2).bind fun t116 => (some t116))) else (some (-1)))) else (some (-1)))
theorem impl_SymbolWays.mono : ∀ a0 a1 a2 k, LeO (impl_SymbolWays.f k a0 a1 a2) (impl_SymbolWays.f (k + 1) a0 a1 a2) := by
  intro a0 a1 a2 k
  unfold impl_SymbolWays.f
  repeat' first
      | (with_reducible exact impl_PrimeIs.mono _ _)
      | (with_reducible exact impl_waysModulo.mono _ _ _ _ _)
      | (with_reducible exact LeO.refl _)
      | (with_reducible exact LeO.none _)
      | (with_reducible refine LeO.ite ?_ ?_)
      | (with_reducible refine LeO.bind ?_ (fun _ => ?_))
      | exact impl_PrimeIs.mono _ _
      | exact impl_waysModulo.mono _ _ _ _ _
      | exact LeO.none _
      | refine LeO.ite ?_ ?_
      | refine LeO.bind ?_ (fun _ => ?_)
set_option maxHeartbeats 8000000 in
set_option maxRecDepth 100000 in
theorem impl_SymbolWays.calls (k : Nat) (a0 : Int) (a1 : Int) (a2 : Int) (r : Int) (w : World) (h : impl_SymbolWays.f k a0 a1 a2 = some r) :
    Calls Try.prog 22 #[.int .i64 a0, .int .i64 a1, .int .i64 a2] w fun e w' => e = .returned (.int .i64 r) ∧ Drawn0 w w' := by
  have H : ((impl_bothNumbers.f a0 a1).bind fun t114 => (if t114 = true then ((impl_PrimeIs.f k a2).bind fun t115 => (if t115 = true then (if a2 > 31 then (some (-1)) else ((impl_waysModulo.f k a0 a1 a2 a2).bind fun t116 => (some t116))) else (some (-1)))) else (some (-1)))) = some r := h
  clear h
  replace H := Option.bind_eq_some_iff.mp H
  obtain ⟨t114, A40, H⟩ := H
  replace H : (if t114 = true then ((impl_PrimeIs.f k a2).bind fun t115 => (if t115 = true then (if a2 > 31 then (some (-1)) else ((impl_waysModulo.f k a0 a1 a2 a2).bind fun t116 => (some t116))) else (some (-1)))) else (some (-1))) = some r := H
  have A4 := Aside0.mk A40
  clear A40
  by_cases c5 : t114 = true
  · subst c5
    have H1 : ((impl_PrimeIs.f k a2).bind fun t115 => (if t115 = true then (if a2 > 31 then (some (-1)) else ((impl_waysModulo.f k a0 a1 a2 a2).bind fun t116 => (some t116))) else (some (-1)))) = some r := by rw [if_pos rfl] at H; exact H
    clear H
    have H := H1
    clear H1
    replace H := Option.bind_eq_some_iff.mp H
    obtain ⟨t115, A60, H⟩ := H
    replace H : (if t115 = true then (if a2 > 31 then (some (-1)) else ((impl_waysModulo.f k a0 a1 a2 a2).bind fun t116 => (some t116))) else (some (-1))) = some r := H
    have A6 := Aside0.mk A60
    clear A60
    by_cases c7 : t115 = true
    · subst c7
      have H1 : (if a2 > 31 then (some (-1)) else ((impl_waysModulo.f k a0 a1 a2 a2).bind fun t116 => (some t116))) = some r := by rw [if_pos rfl] at H; exact H
      clear H
      have H := H1
      clear H1
      by_cases c8 : a2 > 31
      · rw [if_pos c8] at H
        have c8b0 : decide (31 < a2) = true := decide_eq_true c8
        clear c8
        obtain rfl := Option.some.inj H
        go_enter Try.func22, Try.ntmps22
        go_wp2_with (first | ((with_reducible refine gate_callee (f := 63) rfl ?_); refine goesL_ (some 9) rfl rfl Try.func63 (by kernel_rfl) rfl #[.int .i64 a0, .int .i64 a1] rfl (by (try simp only [List.map_toArray, List.map_cons, List.map_nil]); first | done | rfl | (simp only [List.length_drop, List.length_take]; rfl)) ?_; (with_reducible refine (impl_bothNumbers.calls a0 a1 true _ A4.out).mono ?_); rintro e w' ⟨rfl, ⟨nd, rfl⟩⟩; refine ⟨_, rfl, ?_⟩) | (go_at_call 64; (with_reducible refine (impl_PrimeIs.calls k a2 true _ A6.out).mono ?_); rintro e w' ⟨rfl, ⟨nd, rfl⟩⟩))
        go_ret
        exact ⟨by first | rfl | (simp; done) | (simp [*]; done), by repeat (first | exact Drawn0.refl _ | apply Drawn0.step)⟩
      · rw [if_neg c8] at H
        have c8b0 : decide (31 < a2) = false := decide_eq_false c8
        clear c8
        replace H := Option.bind_eq_some_iff.mp H
        obtain ⟨t116, A90, H⟩ := H
        replace H : (some t116) = some r := H
        have A9 := Aside0.mk A90
        clear A90
        obtain rfl := Option.some.inj H
        go_enter Try.func22, Try.ntmps22
        go_wp2_with (first | ((with_reducible refine gate_callee (f := 63) rfl ?_); refine goesL_ (some 9) rfl rfl Try.func63 (by kernel_rfl) rfl #[.int .i64 a0, .int .i64 a1] rfl (by (try simp only [List.map_toArray, List.map_cons, List.map_nil]); first | done | rfl | (simp only [List.length_drop, List.length_take]; rfl)) ?_; (with_reducible refine (impl_bothNumbers.calls a0 a1 true _ A4.out).mono ?_); rintro e w' ⟨rfl, ⟨nd, rfl⟩⟩; refine ⟨_, rfl, ?_⟩) | (go_at_call 64; (with_reducible refine (impl_PrimeIs.calls k a2 true _ A6.out).mono ?_); rintro e w' ⟨rfl, ⟨nd, rfl⟩⟩) | ((with_reducible refine gate_callee (f := 65) rfl ?_); refine goesL_ (some 24) rfl rfl Try.func65 (by kernel_rfl) rfl #[.int .i64 a0, .int .i64 a1, .int .i64 a2, .int .i64 a2] rfl (by (try simp only [List.map_toArray, List.map_cons, List.map_nil]); first | done | rfl | (simp only [List.length_drop, List.length_take]; rfl)) ?_; (with_reducible refine (impl_waysModulo.calls k a0 a1 a2 a2 t116 _ A9.out).mono ?_); rintro e w' ⟨rfl, ⟨nd, rfl⟩⟩; refine ⟨_, rfl, ?_⟩))
        go_ret
        exact ⟨by first | rfl | (simp; done) | (simp [*]; done), by repeat (first | exact Drawn0.refl _ | apply Drawn0.step)⟩
    · replace c7 := Bool.eq_false_iff.mpr c7
      subst c7
      have H1 : (some (-1)) = some r := by rw [if_neg (show ¬ (false = true) by decide)] at H; exact H
      clear H
      have H := H1
      clear H1
      obtain rfl := Option.some.inj H
      go_enter Try.func22, Try.ntmps22
      go_wp2_with (first | ((with_reducible refine gate_callee (f := 63) rfl ?_); refine goesL_ (some 9) rfl rfl Try.func63 (by kernel_rfl) rfl #[.int .i64 a0, .int .i64 a1] rfl (by (try simp only [List.map_toArray, List.map_cons, List.map_nil]); first | done | rfl | (simp only [List.length_drop, List.length_take]; rfl)) ?_; (with_reducible refine (impl_bothNumbers.calls a0 a1 true _ A4.out).mono ?_); rintro e w' ⟨rfl, ⟨nd, rfl⟩⟩; refine ⟨_, rfl, ?_⟩) | (go_at_call 64; (with_reducible refine (impl_PrimeIs.calls k a2 false _ A6.out).mono ?_); rintro e w' ⟨rfl, ⟨nd, rfl⟩⟩))
      go_ret
      exact ⟨by first | rfl | (simp; done) | (simp [*]; done), by repeat (first | exact Drawn0.refl _ | apply Drawn0.step)⟩
  · replace c5 := Bool.eq_false_iff.mpr c5
    subst c5
    have H1 : (some (-1)) = some r := by rw [if_neg (show ¬ (false = true) by decide)] at H; exact H
    clear H
    have H := H1
    clear H1
    obtain rfl := Option.some.inj H
    go_enter Try.func22, Try.ntmps22
    go_wp2_with (first | ((with_reducible refine gate_callee (f := 63) rfl ?_); refine goesL_ (some 9) rfl rfl Try.func63 (by kernel_rfl) rfl #[.int .i64 a0, .int .i64 a1] rfl (by (try simp only [List.map_toArray, List.map_cons, List.map_nil]); first | done | rfl | (simp only [List.length_drop, List.length_take]; rfl)) ?_; (with_reducible refine (impl_bothNumbers.calls a0 a1 false _ A4.out).mono ?_); rintro e w' ⟨rfl, ⟨nd, rfl⟩⟩; refine ⟨_, rfl, ?_⟩))
    go_ret
    exact ⟨by first | rfl | (simp; done) | (simp [*]; done), by repeat (first | exact Drawn0.refl _ | apply Drawn0.step)⟩

/-! ### laws_FnExactSymbolWays: function 4 -/
def laws_FnExactSymbolWays.f (k : Nat) (a0 : Int) (a1 : Int) (a2 : Int) : Option (Bool) := (spec_SymbolWays.f k a0 a1 a2).bind fun t117 => ((impl_SymbolWays.f k a0 a1 a2).bind fun t118 => (if t118 = t117 then (some true) else (some false)))
theorem laws_FnExactSymbolWays.mono : ∀ a0 a1 a2 k, LeO (laws_FnExactSymbolWays.f k a0 a1 a2) (laws_FnExactSymbolWays.f (k + 1) a0 a1 a2) := by
  intro a0 a1 a2 k
  unfold laws_FnExactSymbolWays.f
  repeat' first
      | (with_reducible exact impl_SymbolWays.mono _ _ _ _)
      | (with_reducible exact spec_SymbolWays.mono _ _ _ _)
      | (with_reducible exact LeO.refl _)
      | (with_reducible exact LeO.none _)
      | (with_reducible refine LeO.ite ?_ ?_)
      | (with_reducible refine LeO.bind ?_ (fun _ => ?_))
      | exact impl_SymbolWays.mono _ _ _ _
      | exact spec_SymbolWays.mono _ _ _ _
      | exact LeO.none _
      | refine LeO.ite ?_ ?_
      | refine LeO.bind ?_ (fun _ => ?_)
set_option maxHeartbeats 8000000 in
set_option maxRecDepth 100000 in
theorem laws_FnExactSymbolWays.calls (k : Nat) (a0 : Int) (a1 : Int) (a2 : Int) (r : Bool) (w : World) (h : laws_FnExactSymbolWays.f k a0 a1 a2 = some r) :
    Calls Try.prog 4 #[.int .i64 a0, .int .i64 a1, .int .i64 a2] w fun e w' => e = .returned (.bool r) ∧ Drawn0 w w' := by
  have H : ((spec_SymbolWays.f k a0 a1 a2).bind fun t117 => ((impl_SymbolWays.f k a0 a1 a2).bind fun t118 => (if t118 = t117 then (some true) else (some false)))) = some r := h
  clear h
  replace H := Option.bind_eq_some_iff.mp H
  obtain ⟨t117, A40, H⟩ := H
  replace H : ((impl_SymbolWays.f k a0 a1 a2).bind fun t118 => (if t118 = t117 then (some true) else (some false))) = some r := H
  have A4 := Aside0.mk A40
  clear A40
  replace H := Option.bind_eq_some_iff.mp H
  obtain ⟨t118, A50, H⟩ := H
  replace H : (if t118 = t117 then (some true) else (some false)) = some r := H
  have A5 := Aside0.mk A50
  clear A50
  by_cases c6 : t118 = t117
  · rw [if_pos c6] at H
    have c6b0 : (t118 == t117) = true := beq_iff_eq.mpr c6
    have c6b1 : (t118 != t117) = false := bne_eq_false_iff_eq.mpr c6
    clear c6
    obtain rfl := Option.some.inj H
    go_enter Try.func4, Try.ntmps4
    go_wp2_with (first | ((with_reducible refine gate_callee (f := 21) rfl ?_); refine goesL_ (some 12) rfl rfl Try.func21 (by kernel_rfl) rfl #[.int .i64 a0, .int .i64 a1, .int .i64 a2] rfl (by (try simp only [List.map_toArray, List.map_cons, List.map_nil]); first | done | rfl | (simp only [List.length_drop, List.length_take]; rfl)) ?_; (with_reducible refine (spec_SymbolWays.calls k a0 a1 a2 t117 _ A4.out).mono ?_); rintro e w' ⟨rfl, ⟨nd, rfl⟩⟩; refine ⟨_, rfl, ?_⟩) | ((with_reducible refine gate_callee (f := 22) rfl ?_); refine goesL_ (some 16) rfl rfl Try.func22 (by kernel_rfl) rfl #[.int .i64 a0, .int .i64 a1, .int .i64 a2] rfl (by (try simp only [List.map_toArray, List.map_cons, List.map_nil]); first | done | rfl | (simp only [List.length_drop, List.length_take]; rfl)) ?_; (with_reducible refine (impl_SymbolWays.calls k a0 a1 a2 t118 _ A5.out).mono ?_); rintro e w' ⟨rfl, ⟨nd, rfl⟩⟩; refine ⟨_, rfl, ?_⟩))
    go_ret
    exact ⟨by first | rfl | (simp; done) | (simp [*]; done), by repeat (first | exact Drawn0.refl _ | apply Drawn0.step)⟩
  · rw [if_neg c6] at H
    have c6b0 : (t118 == t117) = false := beq_eq_false_iff_ne.mpr c6
    have c6b1 : (t118 != t117) = true := bne_iff_ne.mpr c6
    obtain rfl := Option.some.inj H
    go_enter Try.func4, Try.ntmps4
    go_wp2_with (first | ((with_reducible refine gate_callee (f := 21) rfl ?_); refine goesL_ (some 12) rfl rfl Try.func21 (by kernel_rfl) rfl #[.int .i64 a0, .int .i64 a1, .int .i64 a2] rfl (by (try simp only [List.map_toArray, List.map_cons, List.map_nil]); first | done | rfl | (simp only [List.length_drop, List.length_take]; rfl)) ?_; (with_reducible refine (spec_SymbolWays.calls k a0 a1 a2 t117 _ A4.out).mono ?_); rintro e w' ⟨rfl, ⟨nd, rfl⟩⟩; refine ⟨_, rfl, ?_⟩) | ((with_reducible refine gate_callee (f := 22) rfl ?_); refine goesL_ (some 16) rfl rfl Try.func22 (by kernel_rfl) rfl #[.int .i64 a0, .int .i64 a1, .int .i64 a2] rfl (by (try simp only [List.map_toArray, List.map_cons, List.map_nil]); first | done | rfl | (simp only [List.length_drop, List.length_take]; rfl)) ?_; (with_reducible refine (impl_SymbolWays.calls k a0 a1 a2 t118 _ A5.out).mono ?_); rintro e w' ⟨rfl, ⟨nd, rfl⟩⟩; refine ⟨_, rfl, ?_⟩))
    go_ret
    exact ⟨by first | rfl | (simp; done) | (simp [*]; done), by repeat (first | exact Drawn0.refl _ | apply Drawn0.step)⟩

/-- THE ONE PURE STATEMENT of laws_FnExactSymbolWays: yours. -/
def laws_FnExactSymbolWays.Pure : Prop := ∀ (a0 : Int) (a1 : Int) (a2 : Int), (Lit.int .i64 a0).wf = true → (Lit.int .i64 a1).wf = true → (Lit.int .i64 a2).wf = true → ∃ k, laws_FnExactSymbolWays.f k a0 a1 a2 = some true
theorem laws_FnExactSymbolWays.walk (P : laws_FnExactSymbolWays.Pure) (a0 : Int) (a1 : Int) (a2 : Int) (w : World) (w0 : (Lit.int .i64 a0).wf = true) (w1 : (Lit.int .i64 a1).wf = true) (w2 : (Lit.int .i64 a2).wf = true) :
    Calls Try.prog 4 #[.int .i64 a0, .int .i64 a1, .int .i64 a2] w fun e w' => e = .returned (.bool true) ∧ Below w.heap.size w w' := by
  obtain ⟨k, h⟩ := P a0 a1 a2 w0 w1 w2
  refine (laws_FnExactSymbolWays.calls k a0 a1 a2 true w h).mono ?_
  rintro e w' ⟨rfl, hd⟩
  exact ⟨rfl, hd.below⟩

end Go.Proofs.Ytmepbogcfkecnaa.PFnExactSymbolWays
