/- The walk of the statement FnWays itself: its steps come to the answers of the plain function laws_FnWays.f.
No condition beyond those of the contracts that it calls. -/
import Derived.Test.YtnbjnlbaoogbmaaPFnWaysx0
import Derived.Test.YtnbjnlbaoogbmaaPFnWaysx2
import Derived.Test.YtnbjnlbaoogbmaaPFnWaysx3
namespace Go.Proofs.Ytnbjnlbaoogbmaa.PFnWays
open Go.RowKit Go.Proofs.YtnbjnlbaoogbmaaW.PrintWords Go.Proofs.YtnbjnlbaoogbmaaW.PrintLast Go.Proofs.YtnbjnlbaoogbmaaW.PrintMore
attribute [local go_sem] max2_int min2_int max_two min_two max_three min_three max_four min_four   -- for this text's walks alone
set_option linter.unusedVariables false
set_option linter.unusedSimpArgs false

/-! ### laws_FnWays: function 12 -/
def laws_FnWays.j0 : Nat → Int → Int → Int → Int → Int → Bool → Option (Bool)
  | 0, _, _, _, _, _, _ => none
  | k + 1, x3, x4, x5, x6, x7, x32 => if x32 = true then (some (x6 == x7)) else (if x5 = 0 then (none) else (if (Int.tmod x3 x5) = 0 then (if (Int.tmod x4 x5) = 0 then (if x5 = 2 then (if x6 ≥ 1 then (some true) else (if ((0 + 1) + 1) = 1 then (some true) else (some (x6 == (wrap64 ((wrap64 (x5 * x5)) - 1)))))) else (if ((0 + 1) + 1) = 1 then (some true) else (some (x6 == (wrap64 ((wrap64 (x5 * x5)) - 1)))))) else (if x5 = 2 then (if x6 ≥ 1 then (some true) else (if (0 + 1) = 1 then (some true) else (some (x6 == (wrap64 ((wrap64 (x5 * x5)) - 1)))))) else (if (0 + 1) = 1 then (some true) else (some (x6 == (wrap64 ((wrap64 (x5 * x5)) - 1))))))) else (if (Int.tmod x4 x5) = 0 then (if x5 = 2 then (if x6 ≥ 1 then (some true) else (if (0 + 1) = 1 then (some true) else (some (x6 == (wrap64 ((wrap64 (x5 * x5)) - 1)))))) else (if (0 + 1) = 1 then (some true) else (some (x6 == (wrap64 ((wrap64 (x5 * x5)) - 1)))))) else (if x5 = 2 then (if x6 ≥ 1 then (some true) else (if 0 = 1 then (some true) else (some (x6 == (wrap64 ((wrap64 (x5 * x5)) - 1)))))) else (if 0 = 1 then (some true) else (some (x6 == (wrap64 ((wrap64 (x5 * x5)) - 1)))))))))
def laws_FnWays.f (k : Nat) (l0 : List Int) : Option (Bool) := if (l0.length : Int) > 1048576 then (some true) else ((spec_DrawSymbolWays.f k l0).bind fun bt180 => ((impl_SymbolWays.f k bt180.1 bt180.2.1 bt180.2.2).bind fun t183 => ((spec_SymbolWays.f k bt180.1 bt180.2.1 bt180.2.2).bind fun t184 => (if t183 = t184 then (laws_FnWays.j0 k bt180.1 bt180.2.1 bt180.2.2 t183 t184 (decide (t183 < 0))) else (laws_FnWays.j0 k bt180.1 bt180.2.1 bt180.2.2 t183 t184 true)))))
theorem laws_FnWays.mono_l : ∀ k, (∀ y0 y1 y2 y3 y4 y5, LeO (laws_FnWays.j0 k y0 y1 y2 y3 y4 y5) (laws_FnWays.j0 (k + 1) y0 y1 y2 y3 y4 y5))
  | 0 => fun _ _ _ _ _ _ r h => by simp [laws_FnWays.j0] at h
  | k + 1 => by
    have ih0 := laws_FnWays.mono_l k
    · intro y0 y1 y2 y3 y4 y5
      unfold laws_FnWays.j0
      repeat' first
      | (with_reducible exact ih0 _ _ _ _ _ _)
      | (with_reducible exact impl_SymbolWays.mono _ _ _ _)
      | (with_reducible exact spec_DrawSymbolWays.mono _ _)
      | (with_reducible exact spec_SymbolWays.mono _ _ _ _)
      | (with_reducible exact LeO.refl _)
      | (with_reducible exact LeO.none _)
      | (with_reducible refine LeO.ite ?_ ?_)
      | (with_reducible refine LeO.bind ?_ (fun _ => ?_))
      | exact ih0 _ _ _ _ _ _
      | exact impl_SymbolWays.mono _ _ _ _
      | exact spec_DrawSymbolWays.mono _ _
      | exact spec_SymbolWays.mono _ _ _ _
      | exact LeO.none _
      | refine LeO.ite ?_ ?_
      | refine LeO.bind ?_ (fun _ => ?_)
theorem laws_FnWays.mono : ∀ a0 k, LeO (laws_FnWays.f k a0) (laws_FnWays.f (k + 1) a0) := by
  intro a0 k
  have ih0 := laws_FnWays.mono_l k
  unfold laws_FnWays.f
  repeat' first
      | (with_reducible exact ih0 _ _ _ _ _ _)
      | (with_reducible exact impl_SymbolWays.mono _ _ _ _)
      | (with_reducible exact spec_DrawSymbolWays.mono _ _)
      | (with_reducible exact spec_SymbolWays.mono _ _ _ _)
      | (with_reducible exact LeO.refl _)
      | (with_reducible exact LeO.none _)
      | (with_reducible refine LeO.ite ?_ ?_)
      | (with_reducible refine LeO.bind ?_ (fun _ => ?_))
      | exact ih0 _ _ _ _ _ _
      | exact impl_SymbolWays.mono _ _ _ _
      | exact spec_DrawSymbolWays.mono _ _
      | exact spec_SymbolWays.mono _ _ _ _
      | exact LeO.none _
      | refine LeO.ite ?_ ?_
      | refine LeO.bind ?_ (fun _ => ?_)
set_option maxHeartbeats 8000000 in
set_option maxRecDepth 100000 in
theorem laws_FnWays.calls (k : Nat) (A0 : Option Addr) (c0 : Nat) (l0 : List Int) (r : Bool) (w : World) (hr0 : Kd.C (Kd.int .u8) w A0 l0.length l0) (hc0 : l0.length ≤ c0) (h : laws_FnWays.f k l0 = some r) :
    Calls Try.prog 12 #[.slice A0 l0.length c0] w fun e w' => e = .returned (.bool r) ∧ Below w.heap.size w w' := by
  have HR0 := Aside0.mk hr0
  have HC0 := Aside0.mk hc0
  clear hr0 hc0
  have HB := Aside0.mk (Below.refl w.heap.size w)
  have H : (if (l0.length : Int) > 1048576 then (some true) else ((spec_DrawSymbolWays.f k l0).bind fun bt180 => ((impl_SymbolWays.f k bt180.1 bt180.2.1 bt180.2.2).bind fun t183 => ((spec_SymbolWays.f k bt180.1 bt180.2.1 bt180.2.2).bind fun t184 => (if t183 = t184 then (laws_FnWays.j0 k bt180.1 bt180.2.1 bt180.2.2 t183 t184 (decide (t183 < 0))) else (laws_FnWays.j0 k bt180.1 bt180.2.1 bt180.2.2 t183 t184 true)))))) = some r := h
  clear h
  by_cases c2 : (l0.length : Int) > 1048576
  · rw [if_pos c2] at H
    have c2b0 : decide (1048576 < (l0.length : Int)) = true := decide_eq_true c2
    have c2b1 : decide (1048576 < l0.length) = true := decide_eq_true (by omega)
    clear c2
    obtain rfl := Option.some.inj H
    go_enter Try.func12, Try.ntmps12
    go_wp2
    go_ret
    exact ⟨by first | rfl | (simp [errW_none, errW_some] <;> rfl) | (simp [*, errW_none, errW_some] <;> rfl), by repeat (first | (with_reducible first | exact HB.out | apply below_alloc | apply pw_below_drewN | apply below_drew1) | exact HB.out)⟩
  · rw [if_neg c2] at H
    have c2b0 : decide (1048576 < (l0.length : Int)) = false := decide_eq_false c2
    have c2b1 : decide (1048576 < l0.length) = false := decide_eq_false (by omega)
    clear c2
    replace H := Option.bind_eq_some_iff.mp H
    obtain ⟨⟨t180, t181, t182⟩, A30, H⟩ := H
    replace H : ((impl_SymbolWays.f k t180 t181 t182).bind fun t183 => ((spec_SymbolWays.f k t180 t181 t182).bind fun t184 => (if t183 = t184 then (laws_FnWays.j0 k t180 t181 t182 t183 t184 (decide (t183 < 0))) else (laws_FnWays.j0 k t180 t181 t182 t183 t184 true)))) = some r := H
    have A3 := Aside0.mk A30
    clear A30
    replace H := Option.bind_eq_some_iff.mp H
    obtain ⟨t183, A40, H⟩ := H
    replace H : ((spec_SymbolWays.f k t180 t181 t182).bind fun t184 => (if t183 = t184 then (laws_FnWays.j0 k t180 t181 t182 t183 t184 (decide (t183 < 0))) else (laws_FnWays.j0 k t180 t181 t182 t183 t184 true))) = some r := H
    have A4 := Aside0.mk A40
    clear A40
    replace H := Option.bind_eq_some_iff.mp H
    obtain ⟨t184, A50, H⟩ := H
    replace H : (if t183 = t184 then (laws_FnWays.j0 k t180 t181 t182 t183 t184 (decide (t183 < 0))) else (laws_FnWays.j0 k t180 t181 t182 t183 t184 true)) = some r := H
    have A5 := Aside0.mk A50
    clear A50
    have HC6 := Aside0.mk H
    clear H
    go_enter Try.func12, Try.ntmps12
    go_upto_region 6 with (first | ((with_reducible refine gate_callee (f := 45) rfl ?_); refine goesL_ (some 14) rfl rfl Try.func45 (by kernel_rfl) rfl #[.slice A0 l0.length c0] rfl (by (try simp only [List.map_toArray, List.map_cons, List.map_nil]); first | done | rfl | (simp only [List.length_drop, List.length_take]; rfl)) ?_; (with_reducible refine (spec_DrawSymbolWays.calls k _ _ l0 t180 t181 t182 _ ?side1 ?side2 A3.out).mono ?_); (case side1 => repeat (first | exact HR0.out | (with_reducible refine Kd.C_alloc ?_ _) | (with_reducible refine Kd.C_drewN ?_ _) | (with_reducible refine Kd.C_drew ?_))); (case side2 => exact HC0.out); rintro e w7 ⟨rfl, hb⟩; refine ⟨_, rfl, ?_⟩; have n0_ := Aside0.mk (below_step (by repeat (first | (with_reducible first | exact HB.out | apply below_alloc | apply pw_below_drewN | apply below_drew1) | exact HB.out)) hb); clear HB; have HB := n0_; clear n0_; (try clear hb); (try clear hb2); (try clear hk); (try clear hi)) | ((with_reducible refine gate_callee (f := 46) rfl ?_); refine goesL_ (some 21) rfl rfl Try.func46 (by kernel_rfl) rfl #[.int .i64 t180, .int .i64 t181, .int .i64 t182] rfl (by (try simp only [List.map_toArray, List.map_cons, List.map_nil]); first | done | rfl | (simp only [List.length_drop, List.length_take]; rfl)) ?_; (with_reducible refine (impl_SymbolWays.calls k t180 t181 t182 t183 _ A4.out).mono ?_); rintro e w' ⟨rfl, ⟨nd, rfl⟩⟩; refine ⟨_, rfl, ?_⟩) | ((with_reducible refine gate_callee (f := 47) rfl ?_); refine goesL_ (some 25) rfl rfl Try.func47 (by kernel_rfl) rfl #[.int .i64 t180, .int .i64 t181, .int .i64 t182] rfl (by (try simp only [List.map_toArray, List.map_cons, List.map_nil]); first | done | rfl | (simp only [List.length_drop, List.length_take]; rfl)) ?_; (with_reducible refine (spec_SymbolWays.calls k t180 t181 t182 t184 _ A5.out).mono ?_); rintro e w' ⟨rfl, ⟨nd, rfl⟩⟩; refine ⟨_, rfl, ?_⟩))
    (try simp only [Act.put, List.setIfInBounds_toArray, List.set_cons_zero, List.set_cons_succ])
    go_cut [32] (fun v32 wc => ∃ (kq : Nat) (x32_5 : Bool), v32 = .bool x32_5 ∧ Aside0 (laws_FnWays.j0 kq t180 t181 t182 t183 t184 x32_5 = some r) ∧ Aside0 (kq ≤ k) ∧ Aside0 (Below w.heap.size w wc))
    case first =>
      have H := HC6.out
      clear HC6
      by_cases c8 : t183 = t184
      · rw [if_pos c8] at H
        have c8b0 : (t183 == t184) = true := beq_iff_eq.mpr c8
        have c8b1 : (t183 != t184) = false := bne_eq_false_iff_eq.mpr c8
        clear c8
        (first | rw [c8b0] | (simp only [i64_w, i32_w]; rw [c8b0]) | skip)
        have H' := Aside0.mk H
        clear H
        go_wp2
        go_meet
        case rel => exact ⟨_, (decide (t183 < 0)), (by first | rfl | (simp; done) | (simp [*]; done)), H', ⟨by first | omega | exact Nat.le_refl _⟩, ⟨by repeat (first | (with_reducible first | exact HB.out | apply below_alloc | apply pw_below_drewN | apply below_drew1) | exact HB.out)⟩⟩
      · rw [if_neg c8] at H
        have c8b0 : (t183 == t184) = false := beq_eq_false_iff_ne.mpr c8
        have c8b1 : (t183 != t184) = true := bne_iff_ne.mpr c8
        (first | rw [c8b0] | (simp only [i64_w, i32_w]; rw [c8b0]) | skip)
        have H' := Aside0.mk H
        clear H
        go_wp2
        go_meet
        case rel => exact ⟨_, (true), (by first | rfl | (simp; done) | (simp [*]; done)), H', ⟨by first | omega | exact Nat.le_refl _⟩, ⟨by repeat (first | (with_reducible first | exact HB.out | apply below_alloc | apply pw_below_drewN | apply below_drew1) | exact HB.out)⟩⟩
    case rest =>
      clear HC6
      try clear c1
      try clear c2
      try clear c2b0
      try clear c2b1
      try clear p2
      try clear c4
      try clear c8
      try clear c8b0
      try clear c8b1
      obtain ⟨kq, x32_5, rfl, HA, HJ5, HB⟩ := hcut
      cases kq with
      | zero => exact absurd HA.out (by simp [laws_FnWays.j0])
      | succ kj5 =>
        have H := HA.out
        clear HA
        simp only [laws_FnWays.j0] at H
        by_cases c9 : x32_5 = true
        · subst c9
          have H1 : (some (t183 == t184)) = some r := by rw [if_pos rfl] at H; exact H
          clear H
          have H := H1
          clear H1
          obtain rfl := Option.some.inj H
          go_wp2
          go_ret
          exact ⟨by first | rfl | (simp [errW_none, errW_some] <;> rfl) | (simp [*, errW_none, errW_some] <;> rfl), by repeat (first | (with_reducible first | exact HB.out | apply below_alloc | apply pw_below_drewN | apply below_drew1) | exact HB.out)⟩
        · replace c9 := Bool.eq_false_iff.mpr c9
          subst c9
          have H1 : (if t182 = 0 then (none) else (if (Int.tmod t180 t182) = 0 then (if (Int.tmod t181 t182) = 0 then (if t182 = 2 then (if t183 ≥ 1 then (some true) else (if ((0 + 1) + 1) = 1 then (some true) else (some (t183 == (wrap64 ((wrap64 (t182 * t182)) - 1)))))) else (if ((0 + 1) + 1) = 1 then (some true) else (some (t183 == (wrap64 ((wrap64 (t182 * t182)) - 1)))))) else (if t182 = 2 then (if t183 ≥ 1 then (some true) else (if (0 + 1) = 1 then (some true) else (some (t183 == (wrap64 ((wrap64 (t182 * t182)) - 1)))))) else (if (0 + 1) = 1 then (some true) else (some (t183 == (wrap64 ((wrap64 (t182 * t182)) - 1))))))) else (if (Int.tmod t181 t182) = 0 then (if t182 = 2 then (if t183 ≥ 1 then (some true) else (if (0 + 1) = 1 then (some true) else (some (t183 == (wrap64 ((wrap64 (t182 * t182)) - 1)))))) else (if (0 + 1) = 1 then (some true) else (some (t183 == (wrap64 ((wrap64 (t182 * t182)) - 1)))))) else (if t182 = 2 then (if t183 ≥ 1 then (some true) else (if 0 = 1 then (some true) else (some (t183 == (wrap64 ((wrap64 (t182 * t182)) - 1)))))) else (if 0 = 1 then (some true) else (some (t183 == (wrap64 ((wrap64 (t182 * t182)) - 1))))))))) = some r := by rw [if_neg (show ¬ (false = true) by decide)] at H; exact H
          clear H
          have H := H1
          clear H1
          by_cases c10 : t182 = 0
          · rw [if_pos c10] at H
            exact absurd H (by simp)
          · rw [if_neg c10] at H
            have c10b0 : (t182 == 0) = false := beq_eq_false_iff_ne.mpr c10
            have c10b1 : (t182 != 0) = true := bne_iff_ne.mpr c10
            by_cases c11 : (Int.tmod t180 t182) = 0
            · rw [if_pos c11] at H
              have c11b0 : ((Int.tmod t180 t182) == 0) = true := beq_iff_eq.mpr c11
              have c11b1 : ((Int.tmod t180 t182) != 0) = false := bne_eq_false_iff_eq.mpr c11
              clear c11
              by_cases c12 : (Int.tmod t181 t182) = 0
              · rw [if_pos c12] at H
                have c12b0 : ((Int.tmod t181 t182) == 0) = true := beq_iff_eq.mpr c12
                have c12b1 : ((Int.tmod t181 t182) != 0) = false := bne_eq_false_iff_eq.mpr c12
                clear c12
                by_cases c13 : t182 = 2
                · rw [if_pos c13] at H
                  have c13b0 : (t182 == 2) = true := beq_iff_eq.mpr c13
                  have c13b1 : (t182 != 2) = false := bne_eq_false_iff_eq.mpr c13
                  clear c13
                  by_cases c14 : t183 ≥ 1
                  · rw [if_pos c14] at H
                    have c14b0 : decide (1 ≤ t183) = true := decide_eq_true c14
                    clear c14
                    obtain rfl := Option.some.inj H
                    go_wp2
                    go_ret
                    exact ⟨by first | rfl | (simp [errW_none, errW_some] <;> rfl) | (simp [*, errW_none, errW_some] <;> rfl), by repeat (first | (with_reducible first | exact HB.out | apply below_alloc | apply pw_below_drewN | apply below_drew1) | exact HB.out)⟩
                  · rw [if_neg c14] at H
                    have c14b0 : decide (1 ≤ t183) = false := decide_eq_false c14
                    clear c14
                    by_cases c15 : ((0 + 1) + 1) = 1
                    · exact absurd c15 (by decide)
                    · rw [if_neg c15] at H
                      have c15b0 : (((0 + 1) + 1) == 1) = false := beq_eq_false_iff_ne.mpr c15
                      have c15b1 : (((0 + 1) + 1) != 1) = true := bne_iff_ne.mpr c15
                      obtain rfl := Option.some.inj H
                      go_wp2
                      go_ret
                      exact ⟨by first | rfl | (simp [errW_none, errW_some] <;> rfl) | (simp [*, errW_none, errW_some] <;> rfl), by repeat (first | (with_reducible first | exact HB.out | apply below_alloc | apply pw_below_drewN | apply below_drew1) | exact HB.out)⟩
                · rw [if_neg c13] at H
                  have c13b0 : (t182 == 2) = false := beq_eq_false_iff_ne.mpr c13
                  have c13b1 : (t182 != 2) = true := bne_iff_ne.mpr c13
                  by_cases c16 : ((0 + 1) + 1) = 1
                  · exact absurd c16 (by decide)
                  · rw [if_neg c16] at H
                    have c16b0 : (((0 + 1) + 1) == 1) = false := beq_eq_false_iff_ne.mpr c16
                    have c16b1 : (((0 + 1) + 1) != 1) = true := bne_iff_ne.mpr c16
                    obtain rfl := Option.some.inj H
                    go_wp2
                    go_ret
                    exact ⟨by first | rfl | (simp [errW_none, errW_some] <;> rfl) | (simp [*, errW_none, errW_some] <;> rfl), by repeat (first | (with_reducible first | exact HB.out | apply below_alloc | apply pw_below_drewN | apply below_drew1) | exact HB.out)⟩
              · rw [if_neg c12] at H
                have c12b0 : ((Int.tmod t181 t182) == 0) = false := beq_eq_false_iff_ne.mpr c12
                have c12b1 : ((Int.tmod t181 t182) != 0) = true := bne_iff_ne.mpr c12
                by_cases c17 : t182 = 2
                · rw [if_pos c17] at H
                  have c17b0 : (t182 == 2) = true := beq_iff_eq.mpr c17
                  have c17b1 : (t182 != 2) = false := bne_eq_false_iff_eq.mpr c17
                  clear c17
                  by_cases c18 : t183 ≥ 1
                  · rw [if_pos c18] at H
                    have c18b0 : decide (1 ≤ t183) = true := decide_eq_true c18
                    clear c18
                    obtain rfl := Option.some.inj H
                    go_wp2
                    go_ret
                    exact ⟨by first | rfl | (simp [errW_none, errW_some] <;> rfl) | (simp [*, errW_none, errW_some] <;> rfl), by repeat (first | (with_reducible first | exact HB.out | apply below_alloc | apply pw_below_drewN | apply below_drew1) | exact HB.out)⟩
                  · rw [if_neg c18] at H
                    have c18b0 : decide (1 ≤ t183) = false := decide_eq_false c18
                    clear c18
                    by_cases c19 : (0 + 1) = 1
                    · rw [if_pos c19] at H
                      have c19b0 : ((0 + 1) == 1) = true := beq_iff_eq.mpr c19
                      have c19b1 : ((0 + 1) != 1) = false := bne_eq_false_iff_eq.mpr c19
                      clear c19
                      obtain rfl := Option.some.inj H
                      go_wp2
                      go_ret
                      exact ⟨by first | rfl | (simp [errW_none, errW_some] <;> rfl) | (simp [*, errW_none, errW_some] <;> rfl), by repeat (first | (with_reducible first | exact HB.out | apply below_alloc | apply pw_below_drewN | apply below_drew1) | exact HB.out)⟩
                    · exact absurd rfl c19
                · rw [if_neg c17] at H
                  have c17b0 : (t182 == 2) = false := beq_eq_false_iff_ne.mpr c17
                  have c17b1 : (t182 != 2) = true := bne_iff_ne.mpr c17
                  by_cases c20 : (0 + 1) = 1
                  · rw [if_pos c20] at H
                    have c20b0 : ((0 + 1) == 1) = true := beq_iff_eq.mpr c20
                    have c20b1 : ((0 + 1) != 1) = false := bne_eq_false_iff_eq.mpr c20
                    clear c20
                    obtain rfl := Option.some.inj H
                    go_wp2
                    go_ret
                    exact ⟨by first | rfl | (simp [errW_none, errW_some] <;> rfl) | (simp [*, errW_none, errW_some] <;> rfl), by repeat (first | (with_reducible first | exact HB.out | apply below_alloc | apply pw_below_drewN | apply below_drew1) | exact HB.out)⟩
                  · exact absurd rfl c20
            · rw [if_neg c11] at H
              have c11b0 : ((Int.tmod t180 t182) == 0) = false := beq_eq_false_iff_ne.mpr c11
              have c11b1 : ((Int.tmod t180 t182) != 0) = true := bne_iff_ne.mpr c11
              by_cases c21 : (Int.tmod t181 t182) = 0
              · rw [if_pos c21] at H
                have c21b0 : ((Int.tmod t181 t182) == 0) = true := beq_iff_eq.mpr c21
                have c21b1 : ((Int.tmod t181 t182) != 0) = false := bne_eq_false_iff_eq.mpr c21
                clear c21
                by_cases c22 : t182 = 2
                · rw [if_pos c22] at H
                  have c22b0 : (t182 == 2) = true := beq_iff_eq.mpr c22
                  have c22b1 : (t182 != 2) = false := bne_eq_false_iff_eq.mpr c22
                  clear c22
                  by_cases c23 : t183 ≥ 1
                  · rw [if_pos c23] at H
                    have c23b0 : decide (1 ≤ t183) = true := decide_eq_true c23
                    clear c23
                    obtain rfl := Option.some.inj H
                    go_wp2
                    go_ret
                    exact ⟨by first | rfl | (simp [errW_none, errW_some] <;> rfl) | (simp [*, errW_none, errW_some] <;> rfl), by repeat (first | (with_reducible first | exact HB.out | apply below_alloc | apply pw_below_drewN | apply below_drew1) | exact HB.out)⟩
                  · rw [if_neg c23] at H
                    have c23b0 : decide (1 ≤ t183) = false := decide_eq_false c23
                    clear c23
                    by_cases c24 : (0 + 1) = 1
                    · rw [if_pos c24] at H
                      have c24b0 : ((0 + 1) == 1) = true := beq_iff_eq.mpr c24
                      have c24b1 : ((0 + 1) != 1) = false := bne_eq_false_iff_eq.mpr c24
                      clear c24
                      obtain rfl := Option.some.inj H
                      go_wp2
                      go_ret
                      exact ⟨by first | rfl | (simp [errW_none, errW_some] <;> rfl) | (simp [*, errW_none, errW_some] <;> rfl), by repeat (first | (with_reducible first | exact HB.out | apply below_alloc | apply pw_below_drewN | apply below_drew1) | exact HB.out)⟩
                    · exact absurd rfl c24
                · rw [if_neg c22] at H
                  have c22b0 : (t182 == 2) = false := beq_eq_false_iff_ne.mpr c22
                  have c22b1 : (t182 != 2) = true := bne_iff_ne.mpr c22
                  by_cases c25 : (0 + 1) = 1
                  · rw [if_pos c25] at H
                    have c25b0 : ((0 + 1) == 1) = true := beq_iff_eq.mpr c25
                    have c25b1 : ((0 + 1) != 1) = false := bne_eq_false_iff_eq.mpr c25
                    clear c25
                    obtain rfl := Option.some.inj H
                    go_wp2
                    go_ret
                    exact ⟨by first | rfl | (simp [errW_none, errW_some] <;> rfl) | (simp [*, errW_none, errW_some] <;> rfl), by repeat (first | (with_reducible first | exact HB.out | apply below_alloc | apply pw_below_drewN | apply below_drew1) | exact HB.out)⟩
                  · exact absurd rfl c25
              · rw [if_neg c21] at H
                have c21b0 : ((Int.tmod t181 t182) == 0) = false := beq_eq_false_iff_ne.mpr c21
                have c21b1 : ((Int.tmod t181 t182) != 0) = true := bne_iff_ne.mpr c21
                by_cases c26 : t182 = 2
                · rw [if_pos c26] at H
                  have c26b0 : (t182 == 2) = true := beq_iff_eq.mpr c26
                  have c26b1 : (t182 != 2) = false := bne_eq_false_iff_eq.mpr c26
                  clear c26
                  by_cases c27 : t183 ≥ 1
                  · rw [if_pos c27] at H
                    have c27b0 : decide (1 ≤ t183) = true := decide_eq_true c27
                    clear c27
                    obtain rfl := Option.some.inj H
                    go_wp2
                    go_ret
                    exact ⟨by first | rfl | (simp [errW_none, errW_some] <;> rfl) | (simp [*, errW_none, errW_some] <;> rfl), by repeat (first | (with_reducible first | exact HB.out | apply below_alloc | apply pw_below_drewN | apply below_drew1) | exact HB.out)⟩
                  · rw [if_neg c27] at H
                    have c27b0 : decide (1 ≤ t183) = false := decide_eq_false c27
                    clear c27
                    by_cases c28 : 0 = 1
                    · exact absurd c28 (by decide)
                    · rw [if_neg c28] at H
                      have c28b0 : (0 == 1) = false := beq_eq_false_iff_ne.mpr c28
                      have c28b1 : (0 != 1) = true := bne_iff_ne.mpr c28
                      obtain rfl := Option.some.inj H
                      go_wp2
                      go_ret
                      exact ⟨by first | rfl | (simp [errW_none, errW_some] <;> rfl) | (simp [*, errW_none, errW_some] <;> rfl), by repeat (first | (with_reducible first | exact HB.out | apply below_alloc | apply pw_below_drewN | apply below_drew1) | exact HB.out)⟩
                · rw [if_neg c26] at H
                  have c26b0 : (t182 == 2) = false := beq_eq_false_iff_ne.mpr c26
                  have c26b1 : (t182 != 2) = true := bne_iff_ne.mpr c26
                  by_cases c29 : 0 = 1
                  · exact absurd c29 (by decide)
                  · rw [if_neg c29] at H
                    have c29b0 : (0 == 1) = false := beq_eq_false_iff_ne.mpr c29
                    have c29b1 : (0 != 1) = true := bne_iff_ne.mpr c29
                    obtain rfl := Option.some.inj H
                    go_wp2
                    go_ret
                    exact ⟨by first | rfl | (simp [errW_none, errW_some] <;> rfl) | (simp [*, errW_none, errW_some] <;> rfl), by repeat (first | (with_reducible first | exact HB.out | apply below_alloc | apply pw_below_drewN | apply below_drew1) | exact HB.out)⟩

/-- THE ONE PURE STATEMENT of laws_FnWays: yours. -/
def laws_FnWays.Pure : Prop := ∀ (l0 : List Int), l0.length ≤ maxLen → l0.length * 1 ≤ 140737488351232 → (∀ x ∈ l0, (Lit.int .u8 x).wf = true) → ∃ k, laws_FnWays.f k l0 = some true
theorem laws_FnWays.walk (P : laws_FnWays.Pure) (a0 : Option Addr) (len0 cap0 : Nat) (z0 : List Int) (w : World) (w0 : (a0 = none ∧ len0 = 0 ∧ cap0 = 0 ∧ z0 = []) ∨ ∃ x, a0 = some x ∧ len0 ≤ cap0 ∧ cap0 ≤ maxLen ∧ z0.length = cap0 ∧ (∀ i, i < z0.length → w.cell? (x.add i) = some (.int .u8 (z0.getD i 0))) ∧ ∀ n ∈ z0, (Lit.int .u8 n).wf = true) (y0 : len0 * 1 ≤ 140737488351232) :
    Calls Try.prog 12 #[.slice a0 len0 cap0] w fun e w' => e = .returned (.bool true) ∧ Below w.heap.size w w' := by
  obtain ⟨l0, rfl, hr0, hm0, hw0, hc0⟩ := ReadsInt.ofRowC w0
  obtain ⟨k, h⟩ := P l0 hm0 y0 hw0
  refine (laws_FnWays.calls k _ _ l0 true w (Kd.C_of_reads (d := (0 : Int)) (h1 := fun _ => rfl) hr0) hc0 h).mono ?_
  rintro e w' ⟨rfl, hd⟩
  exact ⟨rfl, hd⟩

end Go.Proofs.Ytnbjnlbaoogbmaa.PFnWays
