-- PRINTED BY print.sh 35421559b90ae4d0a3588c463048766b98c2df88dd9212a6774a882060cdf62d: not written by this session
import Derived.Test.YtnbjnlbaoogbmaaPFnCorex0
import Derived.Test.YtnbjnlbaoogbmaaPFnCorex1
import Derived.Test.YtnbjnlbaoogbmaaPFnCorex2
namespace Go.Proofs.Ytnbjnlbaoogbmaa.PFnCore
open Go.RowKit Go.Proofs.YtnbjnlbaoogbmaaW.PrintWords Go.Proofs.YtnbjnlbaoogbmaaW.PrintLast Go.Proofs.YtnbjnlbaoogbmaaW.PrintMore
attribute [local go_sem] max2_int min2_int max_two min_two max_three min_three max_four min_four   -- for this text's walks alone
set_option linter.unusedVariables false
set_option linter.unusedSimpArgs false

/-! ### laws_FnCore: function 6 -/
def laws_FnCore.j0 : Nat → Int → Int → Int → Bool → Int → Int → Bool → Bool → Option (Bool)
  | 0, _, _, _, _, _, _, _, _ => none
  | k + 1, x3, x4, x5, x6, x7, x8, x9, x46 => if x46 = true then (if (x6 == x9) = true then (if x5 = x8 then (some (x4 == x7)) else (some false)) else (some false)) else ((impl_CoreOf.f k x4).bind fun bt161 => (if bt161.2.2 = true then (if (wrap64 ((wrap64 (x4 * x5)) * x5)) = x3 then (if bt161.1 = x4 then (if bt161.2.1 = 1 then ((impl_SquareIs.f k x3).bind fun t164 => (if (t164 == (x4 == 1)) = true then (some (decide (x5 ≥ 1))) else (some false))) else (some false)) else (some false)) else (some false)) else (some false)))
def laws_FnCore.f (k : Nat) (l0 : List Int) : Option (Bool) := if (l0.length : Int) > 1048576 then (some true) else ((spec_DrawCoreOf.f k l0).bind fun t154 => ((impl_CoreOf.f k t154).bind fun bt155 => ((spec_CoreOf.f k t154).bind fun bt158 => (if (bt155.2.2 != bt158.2.2) = true then (laws_FnCore.j0 k t154 bt155.1 bt155.2.1 bt155.2.2 bt158.1 bt158.2.1 bt158.2.2 true) else (if bt155.2.1 = bt158.2.1 then (if bt155.1 = bt158.1 then (laws_FnCore.j0 k t154 bt155.1 bt155.2.1 bt155.2.2 bt158.1 bt158.2.1 bt158.2.2 (!bt155.2.2)) else (laws_FnCore.j0 k t154 bt155.1 bt155.2.1 bt155.2.2 bt158.1 bt158.2.1 bt158.2.2 true)) else (laws_FnCore.j0 k t154 bt155.1 bt155.2.1 bt155.2.2 bt158.1 bt158.2.1 bt158.2.2 true))))))
theorem laws_FnCore.mono_l : ∀ k, (∀ y0 y1 y2 y3 y4 y5 y6 y7, LeO (laws_FnCore.j0 k y0 y1 y2 y3 y4 y5 y6 y7) (laws_FnCore.j0 (k + 1) y0 y1 y2 y3 y4 y5 y6 y7))
  | 0 => fun _ _ _ _ _ _ _ _ r h => by simp [laws_FnCore.j0] at h
  | k + 1 => by
    have ih0 := laws_FnCore.mono_l k
    · intro y0 y1 y2 y3 y4 y5 y6 y7
      unfold laws_FnCore.j0
      repeat' first
      | (with_reducible exact ih0 _ _ _ _ _ _ _ _)
      | (with_reducible exact impl_CoreOf.mono _ _)
      | (with_reducible exact impl_SquareIs.mono _ _)
      | (with_reducible exact spec_CoreOf.mono _ _)
      | (with_reducible exact spec_DrawCoreOf.mono _ _)
      | (with_reducible exact LeO.refl _)
      | (with_reducible exact LeO.none _)
      | (with_reducible refine LeO.ite ?_ ?_)
      | (with_reducible refine LeO.bind ?_ (fun _ => ?_))
      | exact ih0 _ _ _ _ _ _ _ _
      | exact impl_CoreOf.mono _ _
      | exact impl_SquareIs.mono _ _
      | exact spec_CoreOf.mono _ _
      | exact spec_DrawCoreOf.mono _ _
      | exact LeO.none _
      | refine LeO.ite ?_ ?_
      | refine LeO.bind ?_ (fun _ => ?_)
theorem laws_FnCore.mono : ∀ a0 k, LeO (laws_FnCore.f k a0) (laws_FnCore.f (k + 1) a0) := by
  intro a0 k
  have ih0 := laws_FnCore.mono_l k
  unfold laws_FnCore.f
  repeat' first
      | (with_reducible exact ih0 _ _ _ _ _ _ _ _)
      | (with_reducible exact impl_CoreOf.mono _ _)
      | (with_reducible exact impl_SquareIs.mono _ _)
      | (with_reducible exact spec_CoreOf.mono _ _)
      | (with_reducible exact spec_DrawCoreOf.mono _ _)
      | (with_reducible exact LeO.refl _)
      | (with_reducible exact LeO.none _)
      | (with_reducible refine LeO.ite ?_ ?_)
      | (with_reducible refine LeO.bind ?_ (fun _ => ?_))
      | exact ih0 _ _ _ _ _ _ _ _
      | exact impl_CoreOf.mono _ _
      | exact impl_SquareIs.mono _ _
      | exact spec_CoreOf.mono _ _
      | exact spec_DrawCoreOf.mono _ _
      | exact LeO.none _
      | refine LeO.ite ?_ ?_
      | refine LeO.bind ?_ (fun _ => ?_)
set_option maxHeartbeats 8000000 in
set_option maxRecDepth 100000 in
theorem laws_FnCore.calls (k : Nat) (A0 : Option Addr) (c0 : Nat) (l0 : List Int) (r : Bool) (w : World) (hr0 : Kd.C (Kd.int .u8) w A0 l0.length l0) (hc0 : l0.length ≤ c0) (h : laws_FnCore.f k l0 = some r) :
    Calls Try.prog 6 #[.slice A0 l0.length c0] w fun e w' => e = .returned (.bool r) ∧ Below w.heap.size w w' := by
  have HR0 := Aside0.mk hr0
  have HC0 := Aside0.mk hc0
  clear hr0 hc0
  have HB := Aside0.mk (Below.refl w.heap.size w)
  have H : (if (l0.length : Int) > 1048576 then (some true) else ((spec_DrawCoreOf.f k l0).bind fun t154 => ((impl_CoreOf.f k t154).bind fun bt155 => ((spec_CoreOf.f k t154).bind fun bt158 => (if (bt155.2.2 != bt158.2.2) = true then (laws_FnCore.j0 k t154 bt155.1 bt155.2.1 bt155.2.2 bt158.1 bt158.2.1 bt158.2.2 true) else (if bt155.2.1 = bt158.2.1 then (if bt155.1 = bt158.1 then (laws_FnCore.j0 k t154 bt155.1 bt155.2.1 bt155.2.2 bt158.1 bt158.2.1 bt158.2.2 (!bt155.2.2)) else (laws_FnCore.j0 k t154 bt155.1 bt155.2.1 bt155.2.2 bt158.1 bt158.2.1 bt158.2.2 true)) else (laws_FnCore.j0 k t154 bt155.1 bt155.2.1 bt155.2.2 bt158.1 bt158.2.1 bt158.2.2 true))))))) = some r := h
  clear h
  by_cases c2 : (l0.length : Int) > 1048576
  · rw [if_pos c2] at H
    have c2b0 : decide (1048576 < (l0.length : Int)) = true := decide_eq_true c2
    have c2b1 : decide (1048576 < l0.length) = true := decide_eq_true (by omega)
    clear c2
    obtain rfl := Option.some.inj H
    go_enter Try.func6, Try.ntmps6
    go_wp2
    go_ret
    exact ⟨by first | rfl | (simp [errW_none, errW_some] <;> rfl) | (simp [*, errW_none, errW_some] <;> rfl), by repeat (first | (with_reducible first | exact HB.out | apply below_alloc | apply pw_below_drewN | apply below_drew1) | exact HB.out)⟩
  · rw [if_neg c2] at H
    have c2b0 : decide (1048576 < (l0.length : Int)) = false := decide_eq_false c2
    have c2b1 : decide (1048576 < l0.length) = false := decide_eq_false (by omega)
    clear c2
    replace H := Option.bind_eq_some_iff.mp H
    obtain ⟨t154, A30, H⟩ := H
    replace H : ((impl_CoreOf.f k t154).bind fun bt155 => ((spec_CoreOf.f k t154).bind fun bt158 => (if (bt155.2.2 != bt158.2.2) = true then (laws_FnCore.j0 k t154 bt155.1 bt155.2.1 bt155.2.2 bt158.1 bt158.2.1 bt158.2.2 true) else (if bt155.2.1 = bt158.2.1 then (if bt155.1 = bt158.1 then (laws_FnCore.j0 k t154 bt155.1 bt155.2.1 bt155.2.2 bt158.1 bt158.2.1 bt158.2.2 (!bt155.2.2)) else (laws_FnCore.j0 k t154 bt155.1 bt155.2.1 bt155.2.2 bt158.1 bt158.2.1 bt158.2.2 true)) else (laws_FnCore.j0 k t154 bt155.1 bt155.2.1 bt155.2.2 bt158.1 bt158.2.1 bt158.2.2 true))))) = some r := H
    have A3 := Aside0.mk A30
    clear A30
    replace H := Option.bind_eq_some_iff.mp H
    obtain ⟨⟨t155, t156, t157⟩, A40, H⟩ := H
    replace H : ((spec_CoreOf.f k t154).bind fun bt158 => (if (t157 != bt158.2.2) = true then (laws_FnCore.j0 k t154 t155 t156 t157 bt158.1 bt158.2.1 bt158.2.2 true) else (if t156 = bt158.2.1 then (if t155 = bt158.1 then (laws_FnCore.j0 k t154 t155 t156 t157 bt158.1 bt158.2.1 bt158.2.2 (!t157)) else (laws_FnCore.j0 k t154 t155 t156 t157 bt158.1 bt158.2.1 bt158.2.2 true)) else (laws_FnCore.j0 k t154 t155 t156 t157 bt158.1 bt158.2.1 bt158.2.2 true)))) = some r := H
    have A4 := Aside0.mk A40
    clear A40
    replace H := Option.bind_eq_some_iff.mp H
    obtain ⟨⟨t158, t159, t160⟩, A50, H⟩ := H
    replace H : (if (t157 != t160) = true then (laws_FnCore.j0 k t154 t155 t156 t157 t158 t159 t160 true) else (if t156 = t159 then (if t155 = t158 then (laws_FnCore.j0 k t154 t155 t156 t157 t158 t159 t160 (!t157)) else (laws_FnCore.j0 k t154 t155 t156 t157 t158 t159 t160 true)) else (laws_FnCore.j0 k t154 t155 t156 t157 t158 t159 t160 true))) = some r := H
    have A5 := Aside0.mk A50
    clear A50
    have HC6 := Aside0.mk H
    clear H
    go_enter Try.func6, Try.ntmps6
    go_upto_region 6 with (first | ((with_reducible refine gate_callee (f := 26) rfl ?_); refine goesL_ (some 17) rfl rfl Try.func26 (by kernel_rfl) rfl #[.slice A0 l0.length c0] rfl (by (try simp only [List.map_toArray, List.map_cons, List.map_nil]); first | done | rfl | (simp only [List.length_drop, List.length_take]; rfl)) ?_; (with_reducible refine (spec_DrawCoreOf.calls k _ _ l0 t154 _ ?side1 ?side2 A3.out).mono ?_); (case side1 => repeat (first | exact HR0.out | (with_reducible refine Kd.C_alloc ?_ _) | (with_reducible refine Kd.C_drewN ?_ _) | (with_reducible refine Kd.C_drew ?_))); (case side2 => exact HC0.out); rintro e w7 ⟨rfl, hb⟩; refine ⟨_, rfl, ?_⟩; have n0_ := Aside0.mk (below_step (by repeat (first | (with_reducible first | exact HB.out | apply below_alloc | apply pw_below_drewN | apply below_drew1) | exact HB.out)) hb); clear HB; have HB := n0_; clear n0_; (try clear hb); (try clear hb2); (try clear hk); (try clear hi)) | ((with_reducible refine gate_callee (f := 27) rfl ?_); refine goesL_ (some 20) rfl rfl Try.func27 (by kernel_rfl) rfl #[.int .i64 t154] rfl (by (try simp only [List.map_toArray, List.map_cons, List.map_nil]); first | done | rfl | (simp only [List.length_drop, List.length_take]; rfl)) ?_; (with_reducible refine (impl_CoreOf.calls k t154 t155 t156 t157 _ A4.out).mono ?_); rintro e w8 ⟨rfl, hb⟩; refine ⟨_, rfl, ?_⟩; have n0_ := Aside0.mk (below_step (by repeat (first | (with_reducible first | exact HB.out | apply below_alloc | apply pw_below_drewN | apply below_drew1) | exact HB.out)) hb); clear HB; have HB := n0_; clear n0_; (try clear hb); (try clear hb2); (try clear hk); (try clear hi)) | ((with_reducible refine gate_callee (f := 28) rfl ?_); refine goesL_ (some 26) rfl rfl Try.func28 (by kernel_rfl) rfl #[.int .i64 t154] rfl (by (try simp only [List.map_toArray, List.map_cons, List.map_nil]); first | done | rfl | (simp only [List.length_drop, List.length_take]; rfl)) ?_; (with_reducible refine (spec_CoreOf.calls k t154 t158 t159 t160 _ A5.out).mono ?_); rintro e w9 ⟨rfl, hb⟩; refine ⟨_, rfl, ?_⟩; have n0_ := Aside0.mk (below_step (by repeat (first | (with_reducible first | exact HB.out | apply below_alloc | apply pw_below_drewN | apply below_drew1) | exact HB.out)) hb); clear HB; have HB := n0_; clear n0_; (try clear hb); (try clear hb2); (try clear hk); (try clear hi)))
    (try simp only [Act.put, List.setIfInBounds_toArray, List.set_cons_zero, List.set_cons_succ])
    go_cut [46] (fun v46 wc => ∃ (kq : Nat) (x46_5 : Bool), v46 = .bool x46_5 ∧ Aside0 (laws_FnCore.j0 kq t154 t155 t156 t157 t158 t159 t160 x46_5 = some r) ∧ Aside0 (kq ≤ k) ∧ Aside0 (Below w.heap.size w wc))
    case first =>
      have H := HC6.out
      clear HC6
      by_cases c10 : (t157 != t160) = true
      · rw [if_pos c10] at H
        have c10b0 : (t157 != t160) = true := c10
        (try (have c10b1 : decide (t157 = t160) = false := by simpa using c10))
        (try (have c10b2 : (t157 == t160) = false := by simpa using c10))
        (try (have c10b3 : ¬ (t157 = t160) := by simpa using c10))
        clear c10
        (first | rw [c10b0] | (simp only [i64_w, i32_w]; rw [c10b0]) | skip)
        have H' := Aside0.mk H
        clear H
        go_wp2
        go_meet
        case rel => exact ⟨_, (true), (by first | rfl | (simp; done) | (simp [*]; done)), H', ⟨by first | omega | exact Nat.le_refl _⟩, ⟨by repeat (first | (with_reducible first | exact HB.out | apply below_alloc | apply pw_below_drewN | apply below_drew1) | exact HB.out)⟩⟩
      · rw [if_neg c10] at H
        have c10b0 : (t157 != t160) = false := by simpa using c10
        (try (have c10b1 : decide (t157 = t160) = true := by simpa using c10))
        (try (have c10b2 : (t157 == t160) = true := by simpa using c10))
        clear c10
        (first | rw [c10b0] | (simp only [i64_w, i32_w]; rw [c10b0]) | skip)
        by_cases c11 : t156 = t159
        · rw [if_pos c11] at H
          have c11b0 : (t156 == t159) = true := beq_iff_eq.mpr c11
          have c11b1 : (t156 != t159) = false := bne_eq_false_iff_eq.mpr c11
          clear c11
          by_cases c12 : t155 = t158
          · rw [if_pos c12] at H
            have c12b0 : (t155 == t158) = true := beq_iff_eq.mpr c12
            have c12b1 : (t155 != t158) = false := bne_eq_false_iff_eq.mpr c12
            clear c12
            have H' := Aside0.mk H
            clear H
            go_wp2
            go_meet
            case rel => exact ⟨_, (!t157), (by first | rfl | (simp; done) | (simp [*]; done)), H', ⟨by first | omega | exact Nat.le_refl _⟩, ⟨by repeat (first | (with_reducible first | exact HB.out | apply below_alloc | apply pw_below_drewN | apply below_drew1) | exact HB.out)⟩⟩
          · rw [if_neg c12] at H
            have c12b0 : (t155 == t158) = false := beq_eq_false_iff_ne.mpr c12
            have c12b1 : (t155 != t158) = true := bne_iff_ne.mpr c12
            have H' := Aside0.mk H
            clear H
            go_wp2
            go_meet
            case rel => exact ⟨_, (true), (by first | rfl | (simp; done) | (simp [*]; done)), H', ⟨by first | omega | exact Nat.le_refl _⟩, ⟨by repeat (first | (with_reducible first | exact HB.out | apply below_alloc | apply pw_below_drewN | apply below_drew1) | exact HB.out)⟩⟩
        · rw [if_neg c11] at H
          have c11b0 : (t156 == t159) = false := beq_eq_false_iff_ne.mpr c11
          have c11b1 : (t156 != t159) = true := bne_iff_ne.mpr c11
          have H' := Aside0.mk H
          clear H
          go_wp2
          go_meet
          case rel => exact ⟨_, (true), (by first | rfl | (simp; done) | (simp [*]; done)), H', ⟨by first | omega | exact Nat.le_refl _⟩, ⟨by repeat (first | (with_reducible first | exact HB.out | apply below_alloc | apply pw_below_drewN | apply below_drew1) | exact HB.out)⟩⟩
    case rest =>
      clear HC6
      try clear c1
      try clear c2
      try clear c2b0
      try clear c2b1
      try clear p2
      try clear c6
      try clear c10
      try clear c10b0
      try clear c10b1
      try clear c10b2
      try clear c11
      try clear c11b0
      try clear c11b1
      try clear c12
      try clear c12b0
      try clear c12b1
      obtain ⟨kq, x46_5, rfl, HA, HJ5, HB⟩ := hcut
      cases kq with
      | zero => exact absurd HA.out (by simp [laws_FnCore.j0])
      | succ kj5 =>
        have H := HA.out
        clear HA
        simp only [laws_FnCore.j0] at H
        by_cases c13 : x46_5 = true
        · subst c13
          have H1 : (if (t157 == t160) = true then (if t156 = t159 then (some (t155 == t158)) else (some false)) else (some false)) = some r := by rw [if_pos rfl] at H; exact H
          clear H
          have H := H1
          clear H1
          by_cases c14 : (t157 == t160) = true
          · rw [if_pos c14] at H
            have c14b0 : (t157 == t160) = true := c14
            (try (have c14b1 : decide (t157 = t160) = true := by simpa using c14))
            (try (have c14b2 : (t157 == t160) = true := by simpa using c14))
            clear c14
            by_cases c15 : t156 = t159
            · rw [if_pos c15] at H
              have c15b0 : (t156 == t159) = true := beq_iff_eq.mpr c15
              have c15b1 : (t156 != t159) = false := bne_eq_false_iff_eq.mpr c15
              clear c15
              obtain rfl := Option.some.inj H
              go_wp2
              go_ret
              exact ⟨by first | rfl | (simp [errW_none, errW_some] <;> rfl) | (simp [*, errW_none, errW_some] <;> rfl), by repeat (first | (with_reducible first | exact HB.out | apply below_alloc | apply pw_below_drewN | apply below_drew1) | exact HB.out)⟩
            · rw [if_neg c15] at H
              have c15b0 : (t156 == t159) = false := beq_eq_false_iff_ne.mpr c15
              have c15b1 : (t156 != t159) = true := bne_iff_ne.mpr c15
              obtain rfl := Option.some.inj H
              go_wp2
              go_ret
              exact ⟨by first | rfl | (simp [errW_none, errW_some] <;> rfl) | (simp [*, errW_none, errW_some] <;> rfl), by repeat (first | (with_reducible first | exact HB.out | apply below_alloc | apply pw_below_drewN | apply below_drew1) | exact HB.out)⟩
          · rw [if_neg c14] at H
            have c14b0 : (t157 == t160) = false := by simpa using c14
            (try (have c14b1 : decide (t157 = t160) = false := by simpa using c14))
            (try (have c14b2 : (t157 == t160) = false := by simpa using c14))
            (try (have c14b3 : ¬ (t157 = t160) := by simpa using c14))
            clear c14
            obtain rfl := Option.some.inj H
            go_wp2
            go_ret
            exact ⟨by first | rfl | (simp [errW_none, errW_some] <;> rfl) | (simp [*, errW_none, errW_some] <;> rfl), by repeat (first | (with_reducible first | exact HB.out | apply below_alloc | apply pw_below_drewN | apply below_drew1) | exact HB.out)⟩
        · replace c13 := Bool.eq_false_iff.mpr c13
          subst c13
          have H1 : ((impl_CoreOf.f kj5 t155).bind fun bt161 => (if bt161.2.2 = true then (if (wrap64 ((wrap64 (t155 * t156)) * t156)) = t154 then (if bt161.1 = t155 then (if bt161.2.1 = 1 then ((impl_SquareIs.f kj5 t154).bind fun t164 => (if (t164 == (t155 == 1)) = true then (some (decide (t156 ≥ 1))) else (some false))) else (some false)) else (some false)) else (some false)) else (some false))) = some r := by rw [if_neg (show ¬ (false = true) by decide)] at H; exact H
          clear H
          have H := H1
          clear H1
          replace H := Option.bind_eq_some_iff.mp H
          obtain ⟨⟨t161, t162, t163⟩, A160, H⟩ := H
          replace H : (if t163 = true then (if (wrap64 ((wrap64 (t155 * t156)) * t156)) = t154 then (if t161 = t155 then (if t162 = 1 then ((impl_SquareIs.f kj5 t154).bind fun t164 => (if (t164 == (t155 == 1)) = true then (some (decide (t156 ≥ 1))) else (some false))) else (some false)) else (some false)) else (some false)) else (some false)) = some r := H
          have A16 := Aside0.mk A160
          clear A160
          by_cases c17 : t163 = true
          · subst c17
            have H1 : (if (wrap64 ((wrap64 (t155 * t156)) * t156)) = t154 then (if t161 = t155 then (if t162 = 1 then ((impl_SquareIs.f kj5 t154).bind fun t164 => (if (t164 == (t155 == 1)) = true then (some (decide (t156 ≥ 1))) else (some false))) else (some false)) else (some false)) else (some false)) = some r := by rw [if_pos rfl] at H; exact H
            clear H
            have H := H1
            clear H1
            by_cases c18 : (wrap64 ((wrap64 (t155 * t156)) * t156)) = t154
            · rw [if_pos c18] at H
              have c18b0 : ((wrap64 ((wrap64 (t155 * t156)) * t156)) == t154) = true := beq_iff_eq.mpr c18
              have c18b1 : ((wrap64 ((wrap64 (t155 * t156)) * t156)) != t154) = false := bne_eq_false_iff_eq.mpr c18
              clear c18
              by_cases c19 : t161 = t155
              · rw [if_pos c19] at H
                have c19b0 : (t161 == t155) = true := beq_iff_eq.mpr c19
                have c19b1 : (t161 != t155) = false := bne_eq_false_iff_eq.mpr c19
                clear c19
                by_cases c20 : t162 = 1
                · rw [if_pos c20] at H
                  have c20b0 : (t162 == 1) = true := beq_iff_eq.mpr c20
                  have c20b1 : (t162 != 1) = false := bne_eq_false_iff_eq.mpr c20
                  clear c20
                  replace H := Option.bind_eq_some_iff.mp H
                  obtain ⟨t164, A210, H⟩ := H
                  replace H : (if (t164 == (t155 == 1)) = true then (some (decide (t156 ≥ 1))) else (some false)) = some r := H
                  have A21 := Aside0.mk A210
                  clear A210
                  by_cases c22 : (t164 == (t155 == 1)) = true
                  · rw [if_pos c22] at H
                    have c22b0 : (t164 == (t155 == 1)) = true := c22
                    (try (have c22b1 : decide (t164 = (t155 == 1)) = true := by simpa using c22))
                    (try (have c22b2 : (t164 == (t155 == 1)) = true := by simpa using c22))
                    clear c22
                    obtain rfl := Option.some.inj H
                    go_wp2_with (first | ((with_reducible refine gate_callee (f := 27) rfl ?_); refine goesL_ (some 62) rfl rfl Try.func27 (by kernel_rfl) rfl #[.int .i64 t155] rfl (by (try simp only [List.map_toArray, List.map_cons, List.map_nil]); first | done | rfl | (simp only [List.length_drop, List.length_take]; rfl)) ?_; (with_reducible refine (impl_CoreOf.calls kj5 t155 t161 t162 true _ A16.out).mono ?_); rintro e w23 ⟨rfl, hb⟩; refine ⟨_, rfl, ?_⟩; have n0_ := Aside0.mk (below_step (by repeat (first | (with_reducible first | exact HB.out | apply below_alloc | apply pw_below_drewN | apply below_drew1) | exact HB.out)) hb); clear HB; have HB := n0_; clear n0_; (try clear hb); (try clear hb2); (try clear hk); (try clear hi)) | (go_at_call 29; (with_reducible refine (impl_SquareIs.calls kj5 t154 t164 _ A21.out).mono ?_); rintro e w' ⟨rfl, ⟨nd, rfl⟩⟩))
                    go_ret
                    exact ⟨by first | rfl | (simp [errW_none, errW_some] <;> rfl) | (simp [*, errW_none, errW_some] <;> rfl), by repeat (first | (with_reducible first | exact HB.out | apply below_alloc | apply pw_below_drewN | apply below_drew1) | exact HB.out)⟩
                  · rw [if_neg c22] at H
                    have c22b0 : (t164 == (t155 == 1)) = false := by simpa using c22
                    (try (have c22b1 : decide (t164 = (t155 == 1)) = false := by simpa using c22))
                    (try (have c22b2 : (t164 == (t155 == 1)) = false := by simpa using c22))
                    (try (have c22b3 : ¬ (t164 = (t155 == 1)) := by simpa using c22))
                    clear c22
                    obtain rfl := Option.some.inj H
                    go_wp2_with (first | ((with_reducible refine gate_callee (f := 27) rfl ?_); refine goesL_ (some 62) rfl rfl Try.func27 (by kernel_rfl) rfl #[.int .i64 t155] rfl (by (try simp only [List.map_toArray, List.map_cons, List.map_nil]); first | done | rfl | (simp only [List.length_drop, List.length_take]; rfl)) ?_; (with_reducible refine (impl_CoreOf.calls kj5 t155 t161 t162 true _ A16.out).mono ?_); rintro e w24 ⟨rfl, hb⟩; refine ⟨_, rfl, ?_⟩; have n0_ := Aside0.mk (below_step (by repeat (first | (with_reducible first | exact HB.out | apply below_alloc | apply pw_below_drewN | apply below_drew1) | exact HB.out)) hb); clear HB; have HB := n0_; clear n0_; (try clear hb); (try clear hb2); (try clear hk); (try clear hi)) | (go_at_call 29; (with_reducible refine (impl_SquareIs.calls kj5 t154 t164 _ A21.out).mono ?_); rintro e w' ⟨rfl, ⟨nd, rfl⟩⟩))
                    go_ret
                    exact ⟨by first | rfl | (simp [errW_none, errW_some] <;> rfl) | (simp [*, errW_none, errW_some] <;> rfl), by repeat (first | (with_reducible first | exact HB.out | apply below_alloc | apply pw_below_drewN | apply below_drew1) | exact HB.out)⟩
                · rw [if_neg c20] at H
                  have c20b0 : (t162 == 1) = false := beq_eq_false_iff_ne.mpr c20
                  have c20b1 : (t162 != 1) = true := bne_iff_ne.mpr c20
                  obtain rfl := Option.some.inj H
                  go_wp2_with (first | ((with_reducible refine gate_callee (f := 27) rfl ?_); refine goesL_ (some 62) rfl rfl Try.func27 (by kernel_rfl) rfl #[.int .i64 t155] rfl (by (try simp only [List.map_toArray, List.map_cons, List.map_nil]); first | done | rfl | (simp only [List.length_drop, List.length_take]; rfl)) ?_; (with_reducible refine (impl_CoreOf.calls kj5 t155 t161 t162 true _ A16.out).mono ?_); rintro e w25 ⟨rfl, hb⟩; refine ⟨_, rfl, ?_⟩; have n0_ := Aside0.mk (below_step (by repeat (first | (with_reducible first | exact HB.out | apply below_alloc | apply pw_below_drewN | apply below_drew1) | exact HB.out)) hb); clear HB; have HB := n0_; clear n0_; (try clear hb); (try clear hb2); (try clear hk); (try clear hi)))
                  go_ret
                  exact ⟨by first | rfl | (simp [errW_none, errW_some] <;> rfl) | (simp [*, errW_none, errW_some] <;> rfl), by repeat (first | (with_reducible first | exact HB.out | apply below_alloc | apply pw_below_drewN | apply below_drew1) | exact HB.out)⟩
              · rw [if_neg c19] at H
                have c19b0 : (t161 == t155) = false := beq_eq_false_iff_ne.mpr c19
                have c19b1 : (t161 != t155) = true := bne_iff_ne.mpr c19
                obtain rfl := Option.some.inj H
                go_wp2_with (first | ((with_reducible refine gate_callee (f := 27) rfl ?_); refine goesL_ (some 62) rfl rfl Try.func27 (by kernel_rfl) rfl #[.int .i64 t155] rfl (by (try simp only [List.map_toArray, List.map_cons, List.map_nil]); first | done | rfl | (simp only [List.length_drop, List.length_take]; rfl)) ?_; (with_reducible refine (impl_CoreOf.calls kj5 t155 t161 t162 true _ A16.out).mono ?_); rintro e w26 ⟨rfl, hb⟩; refine ⟨_, rfl, ?_⟩; have n0_ := Aside0.mk (below_step (by repeat (first | (with_reducible first | exact HB.out | apply below_alloc | apply pw_below_drewN | apply below_drew1) | exact HB.out)) hb); clear HB; have HB := n0_; clear n0_; (try clear hb); (try clear hb2); (try clear hk); (try clear hi)))
                go_ret
                exact ⟨by first | rfl | (simp [errW_none, errW_some] <;> rfl) | (simp [*, errW_none, errW_some] <;> rfl), by repeat (first | (with_reducible first | exact HB.out | apply below_alloc | apply pw_below_drewN | apply below_drew1) | exact HB.out)⟩
            · rw [if_neg c18] at H
              have c18b0 : ((wrap64 ((wrap64 (t155 * t156)) * t156)) == t154) = false := beq_eq_false_iff_ne.mpr c18
              have c18b1 : ((wrap64 ((wrap64 (t155 * t156)) * t156)) != t154) = true := bne_iff_ne.mpr c18
              obtain rfl := Option.some.inj H
              go_wp2_with (first | ((with_reducible refine gate_callee (f := 27) rfl ?_); refine goesL_ (some 62) rfl rfl Try.func27 (by kernel_rfl) rfl #[.int .i64 t155] rfl (by (try simp only [List.map_toArray, List.map_cons, List.map_nil]); first | done | rfl | (simp only [List.length_drop, List.length_take]; rfl)) ?_; (with_reducible refine (impl_CoreOf.calls kj5 t155 t161 t162 true _ A16.out).mono ?_); rintro e w27 ⟨rfl, hb⟩; refine ⟨_, rfl, ?_⟩; have n0_ := Aside0.mk (below_step (by repeat (first | (with_reducible first | exact HB.out | apply below_alloc | apply pw_below_drewN | apply below_drew1) | exact HB.out)) hb); clear HB; have HB := n0_; clear n0_; (try clear hb); (try clear hb2); (try clear hk); (try clear hi)))
              go_ret
              exact ⟨by first | rfl | (simp [errW_none, errW_some] <;> rfl) | (simp [*, errW_none, errW_some] <;> rfl), by repeat (first | (with_reducible first | exact HB.out | apply below_alloc | apply pw_below_drewN | apply below_drew1) | exact HB.out)⟩
          · replace c17 := Bool.eq_false_iff.mpr c17
            subst c17
            have H1 : (some false) = some r := by rw [if_neg (show ¬ (false = true) by decide)] at H; exact H
            clear H
            have H := H1
            clear H1
            obtain rfl := Option.some.inj H
            go_wp2_with (first | ((with_reducible refine gate_callee (f := 27) rfl ?_); refine goesL_ (some 62) rfl rfl Try.func27 (by kernel_rfl) rfl #[.int .i64 t155] rfl (by (try simp only [List.map_toArray, List.map_cons, List.map_nil]); first | done | rfl | (simp only [List.length_drop, List.length_take]; rfl)) ?_; (with_reducible refine (impl_CoreOf.calls kj5 t155 t161 t162 false _ A16.out).mono ?_); rintro e w28 ⟨rfl, hb⟩; refine ⟨_, rfl, ?_⟩; have n0_ := Aside0.mk (below_step (by repeat (first | (with_reducible first | exact HB.out | apply below_alloc | apply pw_below_drewN | apply below_drew1) | exact HB.out)) hb); clear HB; have HB := n0_; clear n0_; (try clear hb); (try clear hb2); (try clear hk); (try clear hi)))
            go_ret
            exact ⟨by first | rfl | (simp [errW_none, errW_some] <;> rfl) | (simp [*, errW_none, errW_some] <;> rfl), by repeat (first | (with_reducible first | exact HB.out | apply below_alloc | apply pw_below_drewN | apply below_drew1) | exact HB.out)⟩

/-- THE ONE PURE STATEMENT of laws_FnCore: yours. -/
def laws_FnCore.Pure : Prop := ∀ (l0 : List Int), l0.length ≤ maxLen → l0.length * 1 ≤ 140737488351232 → (∀ x ∈ l0, (Lit.int .u8 x).wf = true) → ∃ k, laws_FnCore.f k l0 = some true
theorem laws_FnCore.walk (P : laws_FnCore.Pure) (a0 : Option Addr) (len0 cap0 : Nat) (z0 : List Int) (w : World) (w0 : (a0 = none ∧ len0 = 0 ∧ cap0 = 0 ∧ z0 = []) ∨ ∃ x, a0 = some x ∧ len0 ≤ cap0 ∧ cap0 ≤ maxLen ∧ z0.length = cap0 ∧ (∀ i, i < z0.length → w.cell? (x.add i) = some (.int .u8 (z0.getD i 0))) ∧ ∀ n ∈ z0, (Lit.int .u8 n).wf = true) (y0 : len0 * 1 ≤ 140737488351232) :
    Calls Try.prog 6 #[.slice a0 len0 cap0] w fun e w' => e = .returned (.bool true) ∧ Below w.heap.size w w' := by
  obtain ⟨l0, rfl, hr0, hm0, hw0, hc0⟩ := ReadsInt.ofRowC w0
  obtain ⟨k, h⟩ := P l0 hm0 y0 hw0
  refine (laws_FnCore.calls k _ _ l0 true w (Kd.C_of_reads (d := (0 : Int)) (h1 := fun _ => rfl) hr0) hc0 h).mono ?_
  rintro e w' ⟨rfl, hd⟩
  exact ⟨rfl, hd⟩

end Go.Proofs.Ytnbjnlbaoogbmaa.PFnCore
