-- PRINTED BY print.sh 35421559b90ae4d0a3588c463048766b98c2df88dd9212a6774a882060cdf62d: not written by this session
import Derived.Test.YtpcocojkhcokmaaPFnRootLiftx0
import Derived.Test.YtpcocojkhcokmaaPFnRootLiftx1
import Derived.Test.YtpcocojkhcokmaaPFnRootLiftx2
import Derived.Test.YtpcocojkhcokmaaPFnRootLiftx3
namespace Go.Proofs.Ytpcocojkhcokmaa.PFnRootLift
open Go.RowKit Go.Proofs.YtpcocojkhcokmaaW.PrintWords Go.Proofs.YtpcocojkhcokmaaW.PrintLast Go.Proofs.YtpcocojkhcokmaaW.PrintMore
attribute [local go_sem] max2_int min2_int max_two min_two max_three min_three max_four min_four   -- for this text's walks alone
set_option linter.unusedVariables false
set_option linter.unusedSimpArgs false

/-! ### laws_FnRootLift: function 10 -/
mutual
def laws_FnRootLift.j0 : Nat → Int → Int → Int → Int → Bool → Int → Bool → Bool → Option (Bool)
  | 0, _, _, _, _, _, _, _, _ => none
  | k + 1, x3, x4, x5, x6, x7, x8, x9, x48 => if x48 = true then (if (x7 == x9) = true then (some (x6 == x8)) else (some false)) else (if x4 = 2 then (laws_FnRootLift.j1 k x3 x4 x5 x6 true) else (if x4 = 0 then (none) else (laws_FnRootLift.j1 k x3 x4 x5 x6 ((Int.tmod x3 x4) == 0))))
def laws_FnRootLift.j1 : Nat → Int → Int → Int → Int → Bool → Option (Bool)
  | 0, _, _, _, _, _ => none
  | k + 1, x3, x4, x5, x6, x64 => if x64 = true then (some (decide (x6 ≥ 0))) else (laws_FnRootLift.l0 k x3 x4 x5 1 0)
def laws_FnRootLift.l0 : Nat → Int → Int → Int → Int → Int → Option (Bool)
  | 0, _, _, _, _, _ => none
  | k + 1, x3, x4, x5, x10, x11 => if x11 ≤ x5 then (laws_FnRootLift.l0 k x3 x4 x5 (mn (wrap64 (x10 * x4)) 5001) (wrap64 (x11 + 1))) else ((impl_LocalRoot.f k x3 x4 (wrap64 (x5 + 1))).bind fun bt206 => ((impl_LocalSquare.f k x3 x4).bind fun t208 => (if t208 = true then (if x10 > 5000 then (if bt206.2 = true then ((laws_restOf.f (wrap64 ((wrap64 (bt206.1 * bt206.1)) - x3)) x10).bind fun t209 => (some (t209 == 0))) else (some true)) else (if bt206.2 = true then ((laws_restOf.f (wrap64 ((wrap64 (bt206.1 * bt206.1)) - x3)) x10).bind fun t210 => (some (t210 == 0))) else (some false))) else (some false))))
end
def laws_FnRootLift.f (k : Nat) (l0 : List Int) : Option (Bool) := if (l0.length : Int) > 1048576 then (some true) else ((spec_DrawLocalRoot.f k l0).bind fun bt199 => ((impl_LocalRoot.f k bt199.1 bt199.2.1 bt199.2.2).bind fun bt202 => ((spec_LocalRoot.f k bt199.1 bt199.2.1 bt199.2.2).bind fun bt204 => (if (bt202.2 != bt204.2) = true then (laws_FnRootLift.j0 k bt199.1 bt199.2.1 bt199.2.2 bt202.1 bt202.2 bt204.1 bt204.2 true) else (if bt202.1 = bt204.1 then (laws_FnRootLift.j0 k bt199.1 bt199.2.1 bt199.2.2 bt202.1 bt202.2 bt204.1 bt204.2 (!bt202.2)) else (laws_FnRootLift.j0 k bt199.1 bt199.2.1 bt199.2.2 bt202.1 bt202.2 bt204.1 bt204.2 true))))))
theorem laws_FnRootLift.mono_l : ∀ k, (∀ y0 y1 y2 y3 y4 y5 y6 y7, LeO (laws_FnRootLift.j0 k y0 y1 y2 y3 y4 y5 y6 y7) (laws_FnRootLift.j0 (k + 1) y0 y1 y2 y3 y4 y5 y6 y7)) ∧ (∀ y0 y1 y2 y3 y4, LeO (laws_FnRootLift.j1 k y0 y1 y2 y3 y4) (laws_FnRootLift.j1 (k + 1) y0 y1 y2 y3 y4)) ∧ (∀ y0 y1 y2 y3 y4, LeO (laws_FnRootLift.l0 k y0 y1 y2 y3 y4) (laws_FnRootLift.l0 (k + 1) y0 y1 y2 y3 y4))
  | 0 => ⟨fun _ _ _ _ _ _ _ _ r h => by simp [laws_FnRootLift.j0] at h, fun _ _ _ _ _ r h => by simp [laws_FnRootLift.j1] at h, fun _ _ _ _ _ r h => by simp [laws_FnRootLift.l0] at h⟩
  | k + 1 => by
    obtain ⟨ih0, ih1, ih2⟩ := laws_FnRootLift.mono_l k
    refine ⟨?_, ?_, ?_⟩
    · intro y0 y1 y2 y3 y4 y5 y6 y7
      unfold laws_FnRootLift.j0
      repeat' first
      | (with_reducible exact ih0 _ _ _ _ _ _ _ _)
      | (with_reducible exact ih1 _ _ _ _ _)
      | (with_reducible exact ih2 _ _ _ _ _)
      | (with_reducible exact impl_LocalRoot.mono _ _ _ _)
      | (with_reducible exact impl_LocalSquare.mono _ _ _)
      | (with_reducible exact spec_DrawLocalRoot.mono _ _)
      | (with_reducible exact spec_LocalRoot.mono _ _ _ _)
      | (with_reducible exact LeO.refl _)
      | (with_reducible exact LeO.none _)
      | (with_reducible refine LeO.ite ?_ ?_)
      | (with_reducible refine LeO.bind ?_ (fun _ => ?_))
      | exact ih0 _ _ _ _ _ _ _ _
      | exact ih1 _ _ _ _ _
      | exact ih2 _ _ _ _ _
      | exact impl_LocalRoot.mono _ _ _ _
      | exact impl_LocalSquare.mono _ _ _
      | exact spec_DrawLocalRoot.mono _ _
      | exact spec_LocalRoot.mono _ _ _ _
      | exact LeO.none _
      | refine LeO.ite ?_ ?_
      | refine LeO.bind ?_ (fun _ => ?_)
    · intro y0 y1 y2 y3 y4
      unfold laws_FnRootLift.j1
      repeat' first
      | (with_reducible exact ih0 _ _ _ _ _ _ _ _)
      | (with_reducible exact ih1 _ _ _ _ _)
      | (with_reducible exact ih2 _ _ _ _ _)
      | (with_reducible exact impl_LocalRoot.mono _ _ _ _)
      | (with_reducible exact impl_LocalSquare.mono _ _ _)
      | (with_reducible exact spec_DrawLocalRoot.mono _ _)
      | (with_reducible exact spec_LocalRoot.mono _ _ _ _)
      | (with_reducible exact LeO.refl _)
      | (with_reducible exact LeO.none _)
      | (with_reducible refine LeO.ite ?_ ?_)
      | (with_reducible refine LeO.bind ?_ (fun _ => ?_))
      | exact ih0 _ _ _ _ _ _ _ _
      | exact ih1 _ _ _ _ _
      | exact ih2 _ _ _ _ _
      | exact impl_LocalRoot.mono _ _ _ _
      | exact impl_LocalSquare.mono _ _ _
      | exact spec_DrawLocalRoot.mono _ _
      | exact spec_LocalRoot.mono _ _ _ _
      | exact LeO.none _
      | refine LeO.ite ?_ ?_
      | refine LeO.bind ?_ (fun _ => ?_)
    · intro y0 y1 y2 y3 y4
      unfold laws_FnRootLift.l0
      repeat' first
      | (with_reducible exact ih0 _ _ _ _ _ _ _ _)
      | (with_reducible exact ih1 _ _ _ _ _)
      | (with_reducible exact ih2 _ _ _ _ _)
      | (with_reducible exact impl_LocalRoot.mono _ _ _ _)
      | (with_reducible exact impl_LocalSquare.mono _ _ _)
      | (with_reducible exact spec_DrawLocalRoot.mono _ _)
      | (with_reducible exact spec_LocalRoot.mono _ _ _ _)
      | (with_reducible exact LeO.refl _)
      | (with_reducible exact LeO.none _)
      | (with_reducible refine LeO.ite ?_ ?_)
      | (with_reducible refine LeO.bind ?_ (fun _ => ?_))
      | exact ih0 _ _ _ _ _ _ _ _
      | exact ih1 _ _ _ _ _
      | exact ih2 _ _ _ _ _
      | exact impl_LocalRoot.mono _ _ _ _
      | exact impl_LocalSquare.mono _ _ _
      | exact spec_DrawLocalRoot.mono _ _
      | exact spec_LocalRoot.mono _ _ _ _
      | exact LeO.none _
      | refine LeO.ite ?_ ?_
      | refine LeO.bind ?_ (fun _ => ?_)
theorem laws_FnRootLift.mono : ∀ a0 k, LeO (laws_FnRootLift.f k a0) (laws_FnRootLift.f (k + 1) a0) := by
  intro a0 k
  obtain ⟨ih0, ih1, ih2⟩ := laws_FnRootLift.mono_l k
  unfold laws_FnRootLift.f
  repeat' first
      | (with_reducible exact ih0 _ _ _ _ _ _ _ _)
      | (with_reducible exact ih1 _ _ _ _ _)
      | (with_reducible exact ih2 _ _ _ _ _)
      | (with_reducible exact impl_LocalRoot.mono _ _ _ _)
      | (with_reducible exact impl_LocalSquare.mono _ _ _)
      | (with_reducible exact spec_DrawLocalRoot.mono _ _)
      | (with_reducible exact spec_LocalRoot.mono _ _ _ _)
      | (with_reducible exact LeO.refl _)
      | (with_reducible exact LeO.none _)
      | (with_reducible refine LeO.ite ?_ ?_)
      | (with_reducible refine LeO.bind ?_ (fun _ => ?_))
      | exact ih0 _ _ _ _ _ _ _ _
      | exact ih1 _ _ _ _ _
      | exact ih2 _ _ _ _ _
      | exact impl_LocalRoot.mono _ _ _ _
      | exact impl_LocalSquare.mono _ _ _
      | exact spec_DrawLocalRoot.mono _ _
      | exact spec_LocalRoot.mono _ _ _ _
      | exact LeO.none _
      | refine LeO.ite ?_ ?_
      | refine LeO.bind ?_ (fun _ => ?_)
set_option maxHeartbeats 8000000 in
set_option maxRecDepth 100000 in
theorem laws_FnRootLift.calls (k : Nat) (A0 : Option Addr) (c0 : Nat) (l0 : List Int) (r : Bool) (w : World) (hr0 : Kd.C (Kd.int .u8) w A0 l0.length l0) (hc0 : l0.length ≤ c0) (h : laws_FnRootLift.f k l0 = some r) :
    Calls Try.prog 10 #[.slice A0 l0.length c0] w fun e w' => e = .returned (.bool r) ∧ Below w.heap.size w w' := by
  have HR0 := Aside0.mk hr0
  have HC0 := Aside0.mk hc0
  clear hr0 hc0
  have HB := Aside0.mk (Below.refl w.heap.size w)
  have H : (if (l0.length : Int) > 1048576 then (some true) else ((spec_DrawLocalRoot.f k l0).bind fun bt199 => ((impl_LocalRoot.f k bt199.1 bt199.2.1 bt199.2.2).bind fun bt202 => ((spec_LocalRoot.f k bt199.1 bt199.2.1 bt199.2.2).bind fun bt204 => (if (bt202.2 != bt204.2) = true then (laws_FnRootLift.j0 k bt199.1 bt199.2.1 bt199.2.2 bt202.1 bt202.2 bt204.1 bt204.2 true) else (if bt202.1 = bt204.1 then (laws_FnRootLift.j0 k bt199.1 bt199.2.1 bt199.2.2 bt202.1 bt202.2 bt204.1 bt204.2 (!bt202.2)) else (laws_FnRootLift.j0 k bt199.1 bt199.2.1 bt199.2.2 bt202.1 bt202.2 bt204.1 bt204.2 true))))))) = some r := h
  clear h
  by_cases c2 : (l0.length : Int) > 1048576
  · rw [if_pos c2] at H
    have c2b0 : decide (1048576 < (l0.length : Int)) = true := decide_eq_true c2
    have c2b1 : decide (1048576 < l0.length) = true := decide_eq_true (by omega)
    clear c2
    obtain rfl := Option.some.inj H
    go_enter Try.func10, Try.ntmps10
    go_wp2
    go_ret
    exact ⟨by first | rfl | (simp [errW_none, errW_some] <;> rfl) | (simp [*, errW_none, errW_some] <;> rfl), by repeat (first | (with_reducible first | exact HB.out | apply below_alloc | apply pw_below_drewN | apply below_drew1) | exact HB.out)⟩
  · rw [if_neg c2] at H
    have c2b0 : decide (1048576 < (l0.length : Int)) = false := decide_eq_false c2
    have c2b1 : decide (1048576 < l0.length) = false := decide_eq_false (by omega)
    clear c2
    replace H := Option.bind_eq_some_iff.mp H
    obtain ⟨⟨t199, t200, t201⟩, A30, H⟩ := H
    replace H : ((impl_LocalRoot.f k t199 t200 t201).bind fun bt202 => ((spec_LocalRoot.f k t199 t200 t201).bind fun bt204 => (if (bt202.2 != bt204.2) = true then (laws_FnRootLift.j0 k t199 t200 t201 bt202.1 bt202.2 bt204.1 bt204.2 true) else (if bt202.1 = bt204.1 then (laws_FnRootLift.j0 k t199 t200 t201 bt202.1 bt202.2 bt204.1 bt204.2 (!bt202.2)) else (laws_FnRootLift.j0 k t199 t200 t201 bt202.1 bt202.2 bt204.1 bt204.2 true))))) = some r := H
    have A3 := Aside0.mk A30
    clear A30
    replace H := Option.bind_eq_some_iff.mp H
    obtain ⟨⟨t202, t203⟩, A40, H⟩ := H
    replace H : ((spec_LocalRoot.f k t199 t200 t201).bind fun bt204 => (if (t203 != bt204.2) = true then (laws_FnRootLift.j0 k t199 t200 t201 t202 t203 bt204.1 bt204.2 true) else (if t202 = bt204.1 then (laws_FnRootLift.j0 k t199 t200 t201 t202 t203 bt204.1 bt204.2 (!t203)) else (laws_FnRootLift.j0 k t199 t200 t201 t202 t203 bt204.1 bt204.2 true)))) = some r := H
    have A4 := Aside0.mk A40
    clear A40
    replace H := Option.bind_eq_some_iff.mp H
    obtain ⟨⟨t204, t205⟩, A50, H⟩ := H
    replace H : (if (t203 != t205) = true then (laws_FnRootLift.j0 k t199 t200 t201 t202 t203 t204 t205 true) else (if t202 = t204 then (laws_FnRootLift.j0 k t199 t200 t201 t202 t203 t204 t205 (!t203)) else (laws_FnRootLift.j0 k t199 t200 t201 t202 t203 t204 t205 true))) = some r := H
    have A5 := Aside0.mk A50
    clear A50
    have HC6 := Aside0.mk H
    clear H
    go_enter Try.func10, Try.ntmps10
    go_upto_region 6 with (first | ((with_reducible refine gate_callee (f := 20) rfl ?_); refine goesL_ (some 19) rfl rfl Try.func20 (by kernel_rfl) rfl #[.slice A0 l0.length c0] rfl (by (try simp only [List.map_toArray, List.map_cons, List.map_nil]); first | done | rfl | (simp only [List.length_drop, List.length_take]; rfl)) ?_; (with_reducible refine (spec_DrawLocalRoot.calls k _ _ l0 t199 t200 t201 _ ?side1 ?side2 A3.out).mono ?_); (case side1 => repeat (first | exact HR0.out | (with_reducible refine Kd.C_alloc ?_ _) | (with_reducible refine Kd.C_drewN ?_ _) | (with_reducible refine Kd.C_drew ?_))); (case side2 => exact HC0.out); rintro e w7 ⟨rfl, hb⟩; refine ⟨_, rfl, ?_⟩; have n0_ := Aside0.mk (below_step (by repeat (first | (with_reducible first | exact HB.out | apply below_alloc | apply pw_below_drewN | apply below_drew1) | exact HB.out)) hb); clear HB; have HB := n0_; clear n0_; (try clear hb); (try clear hb2); (try clear hk); (try clear hi)) | ((with_reducible refine gate_callee (f := 21) rfl ?_); refine goesL_ (some 27) rfl rfl Try.func21 (by kernel_rfl) rfl #[.int .i64 t199, .int .i64 t200, .int .i64 t201] rfl (by (try simp only [List.map_toArray, List.map_cons, List.map_nil]); first | done | rfl | (simp only [List.length_drop, List.length_take]; rfl)) ?_; (with_reducible refine (impl_LocalRoot.calls k t199 t200 t201 t202 t203 _ A4.out).mono ?_); rintro e w' ⟨rfl, ⟨nd, rfl⟩⟩; refine ⟨_, rfl, ?_⟩) | ((with_reducible refine gate_callee (f := 22) rfl ?_); refine goesL_ (some 34) rfl rfl Try.func22 (by kernel_rfl) rfl #[.int .i64 t199, .int .i64 t200, .int .i64 t201] rfl (by (try simp only [List.map_toArray, List.map_cons, List.map_nil]); first | done | rfl | (simp only [List.length_drop, List.length_take]; rfl)) ?_; (with_reducible refine (spec_LocalRoot.calls k t199 t200 t201 t204 t205 _ A5.out).mono ?_); rintro e w8 ⟨rfl, hb⟩; refine ⟨_, rfl, ?_⟩; have n0_ := Aside0.mk (below_step (by repeat (first | (with_reducible first | exact HB.out | apply below_alloc | apply pw_below_drewN | apply below_drew1) | exact HB.out)) hb); clear HB; have HB := n0_; clear n0_; (try clear hb); (try clear hb2); (try clear hk); (try clear hi)))
    (try simp only [Act.put, List.setIfInBounds_toArray, List.set_cons_zero, List.set_cons_succ])
    go_cut [48] (fun v48 wc => ∃ (kq : Nat) (x48_5 : Bool), v48 = .bool x48_5 ∧ Aside0 (laws_FnRootLift.j0 kq t199 t200 t201 t202 t203 t204 t205 x48_5 = some r) ∧ Aside0 (kq ≤ k) ∧ Aside0 (Below w.heap.size w wc))
    case first =>
      have H := HC6.out
      clear HC6
      by_cases c9 : (t203 != t205) = true
      · rw [if_pos c9] at H
        have c9b0 : (t203 != t205) = true := c9
        (try (have c9b1 : decide (t203 = t205) = false := by simpa using c9))
        (try (have c9b2 : (t203 == t205) = false := by simpa using c9))
        (try (have c9b3 : ¬ (t203 = t205) := by simpa using c9))
        clear c9
        (first | rw [c9b0] | (simp only [i64_w, i32_w]; rw [c9b0]) | skip)
        have H' := Aside0.mk H
        clear H
        go_wp2
        go_meet
        case rel => exact ⟨_, (true), (by first | rfl | (simp; done) | (simp [*]; done)), H', ⟨by first | omega | exact Nat.le_refl _⟩, ⟨by repeat (first | (with_reducible first | exact HB.out | apply below_alloc | apply pw_below_drewN | apply below_drew1) | exact HB.out)⟩⟩
      · rw [if_neg c9] at H
        have c9b0 : (t203 != t205) = false := by simpa using c9
        (try (have c9b1 : decide (t203 = t205) = true := by simpa using c9))
        (try (have c9b2 : (t203 == t205) = true := by simpa using c9))
        clear c9
        (first | rw [c9b0] | (simp only [i64_w, i32_w]; rw [c9b0]) | skip)
        by_cases c10 : t202 = t204
        · rw [if_pos c10] at H
          have c10b0 : (t202 == t204) = true := beq_iff_eq.mpr c10
          have c10b1 : (t202 != t204) = false := bne_eq_false_iff_eq.mpr c10
          clear c10
          have H' := Aside0.mk H
          clear H
          go_wp2
          go_meet
          case rel => exact ⟨_, (!t203), (by first | rfl | (simp; done) | (simp [*]; done)), H', ⟨by first | omega | exact Nat.le_refl _⟩, ⟨by repeat (first | (with_reducible first | exact HB.out | apply below_alloc | apply pw_below_drewN | apply below_drew1) | exact HB.out)⟩⟩
        · rw [if_neg c10] at H
          have c10b0 : (t202 == t204) = false := beq_eq_false_iff_ne.mpr c10
          have c10b1 : (t202 != t204) = true := bne_iff_ne.mpr c10
          have H' := Aside0.mk H
          clear H
          go_wp2
          go_meet
          case rel => exact ⟨_, (true), (by first | rfl | (simp; done) | (simp [*]; done)), H', ⟨by first | omega | exact Nat.le_refl _⟩, ⟨by repeat (first | (with_reducible first | exact HB.out | apply below_alloc | apply pw_below_drewN | apply below_drew1) | exact HB.out)⟩⟩
    case rest =>
      clear HC6
      try clear c1
      try clear c2
      try clear c2b0
      try clear c2b1
      try clear p2
      try clear c9
      try clear c9b0
      try clear c9b1
      try clear c9b2
      try clear c10
      try clear c10b0
      try clear c10b1
      obtain ⟨kq, x48_5, rfl, HA, HJ5, HB⟩ := hcut
      cases kq with
      | zero => exact absurd HA.out (by simp [laws_FnRootLift.j0])
      | succ kj5 =>
        have H := HA.out
        clear HA
        simp only [laws_FnRootLift.j0] at H
        by_cases c11 : x48_5 = true
        · subst c11
          have H1 : (if (t203 == t205) = true then (some (t202 == t204)) else (some false)) = some r := by rw [if_pos rfl] at H; exact H
          clear H
          have H := H1
          clear H1
          by_cases c12 : (t203 == t205) = true
          · rw [if_pos c12] at H
            have c12b0 : (t203 == t205) = true := c12
            (try (have c12b1 : decide (t203 = t205) = true := by simpa using c12))
            (try (have c12b2 : (t203 == t205) = true := by simpa using c12))
            clear c12
            obtain rfl := Option.some.inj H
            go_wp2
            go_ret
            exact ⟨by first | rfl | (simp [errW_none, errW_some] <;> rfl) | (simp [*, errW_none, errW_some] <;> rfl), by repeat (first | (with_reducible first | exact HB.out | apply below_alloc | apply pw_below_drewN | apply below_drew1) | exact HB.out)⟩
          · rw [if_neg c12] at H
            have c12b0 : (t203 == t205) = false := by simpa using c12
            (try (have c12b1 : decide (t203 = t205) = false := by simpa using c12))
            (try (have c12b2 : (t203 == t205) = false := by simpa using c12))
            (try (have c12b3 : ¬ (t203 = t205) := by simpa using c12))
            clear c12
            obtain rfl := Option.some.inj H
            go_wp2
            go_ret
            exact ⟨by first | rfl | (simp [errW_none, errW_some] <;> rfl) | (simp [*, errW_none, errW_some] <;> rfl), by repeat (first | (with_reducible first | exact HB.out | apply below_alloc | apply pw_below_drewN | apply below_drew1) | exact HB.out)⟩
        · replace c11 := Bool.eq_false_iff.mpr c11
          subst c11
          have H1 : (if t200 = 2 then (laws_FnRootLift.j1 kj5 t199 t200 t201 t202 true) else (if t200 = 0 then (none) else (laws_FnRootLift.j1 kj5 t199 t200 t201 t202 ((Int.tmod t199 t200) == 0)))) = some r := by rw [if_neg (show ¬ (false = true) by decide)] at H; exact H
          clear H
          have H := H1
          clear H1
          have HC13 := Aside0.mk H
          clear H
          go_upto_region 8 with (fail)
          go_cut [64] (fun v64 wc => ∃ (kq : Nat) (x64_12 : Bool), v64 = .bool x64_12 ∧ Aside0 (laws_FnRootLift.j1 kq t199 t200 t201 t202 x64_12 = some r) ∧ Aside0 (kq ≤ kj5) ∧ Aside0 (Below w.heap.size w wc))
          case first =>
            have H := HC13.out
            clear HC13
            by_cases c14 : t200 = 2
            · rw [if_pos c14] at H
              have c14b0 : (t200 == 2) = true := beq_iff_eq.mpr c14
              have c14b1 : (t200 != 2) = false := bne_eq_false_iff_eq.mpr c14
              clear c14
              (first | rw [c14b0] | (simp only [i64_w, i32_w]; rw [c14b0]) | skip)
              have H' := Aside0.mk H
              clear H
              go_wp2
              go_meet
              case rel => exact ⟨_, (true), (by first | rfl | (simp; done) | (simp [*]; done)), H', ⟨by have := HJ5.out; first | omega | exact Nat.le_refl _⟩, ⟨by repeat (first | (with_reducible first | exact HB.out | apply below_alloc | apply pw_below_drewN | apply below_drew1) | exact HB.out)⟩⟩
            · rw [if_neg c14] at H
              have c14b0 : (t200 == 2) = false := beq_eq_false_iff_ne.mpr c14
              have c14b1 : (t200 != 2) = true := bne_iff_ne.mpr c14
              (first | rw [c14b0] | (simp only [i64_w, i32_w]; rw [c14b0]) | skip)
              by_cases c15 : t200 = 0
              · rw [if_pos c15] at H
                exact absurd H (by simp)
              · rw [if_neg c15] at H
                have c15b0 : (t200 == 0) = false := beq_eq_false_iff_ne.mpr c15
                have c15b1 : (t200 != 0) = true := bne_iff_ne.mpr c15
                have H' := Aside0.mk H
                clear H
                go_wp2
                go_meet
                case rel => exact ⟨_, (((Int.tmod t199 t200) == 0)), (by first | rfl | (simp; done) | (simp [*]; done)), H', ⟨by have := HJ5.out; first | omega | exact Nat.le_refl _⟩, ⟨by repeat (first | (with_reducible first | exact HB.out | apply below_alloc | apply pw_below_drewN | apply below_drew1) | exact HB.out)⟩⟩
          case rest =>
            clear HC13
            try clear c1
            try clear c2
            try clear c2b0
            try clear c2b1
            try clear p2
            try clear c9
            try clear c9b0
            try clear c9b1
            try clear c9b2
            try clear c10
            try clear c10b0
            try clear c10b1
            try clear c11
            try clear c12
            try clear c12b0
            try clear c12b1
            try clear c12b2
            try clear c14
            try clear c14b0
            try clear c14b1
            try clear c15
            try clear c15b0
            try clear c15b1
            try clear p2
            obtain ⟨kq, x64_12, rfl, HA, HJ12, HB⟩ := hcut
            cases kq with
            | zero => exact absurd HA.out (by simp [laws_FnRootLift.j1])
            | succ kj12 =>
              have H := HA.out
              clear HA
              simp only [laws_FnRootLift.j1] at H
              by_cases c16 : x64_12 = true
              · subst c16
                have H1 : (some (decide (t202 ≥ 0))) = some r := by rw [if_pos rfl] at H; exact H
                clear H
                have H := H1
                clear H1
                obtain rfl := Option.some.inj H
                go_wp2
                go_ret
                exact ⟨by first | rfl | (simp [errW_none, errW_some] <;> rfl) | (simp [*, errW_none, errW_some] <;> rfl), by repeat (first | (with_reducible first | exact HB.out | apply below_alloc | apply pw_below_drewN | apply below_drew1) | exact HB.out)⟩
              · replace c16 := Bool.eq_false_iff.mpr c16
                subst c16
                have H1 : (laws_FnRootLift.l0 kj12 t199 t200 t201 1 0) = some r := by rw [if_neg (show ¬ (false = true) by decide)] at H; exact H
                clear H
                have H := H1
                clear H1
                have H' := Aside0.mk H
                clear H
                go_wp2
                go_loopg [10, 11] kj12 (fun kq v10 v11 w' => ∃ (x10_3 : Int) (x11_3 : Int), v10 = .int .i64 x10_3 ∧ v11 = .int .i64 x11_3 ∧ Aside0 (laws_FnRootLift.l0 kq t199 t200 t201 x10_3 x11_3 = some r) ∧ Aside0 (kq ≤ kj12) ∧ Aside0 (Below w.heap.size w w'))
                case atStart => exact ⟨(1), (0), (by first | rfl | (simp; done) | (simp [*]; done)), (by first | rfl | (simp; done) | (simp [*]; done)), H', ⟨Nat.le_refl _⟩, ⟨by repeat (first | (with_reducible first | exact HB.out | apply below_alloc | apply pw_below_drewN | apply below_drew1) | exact HB.out)⟩⟩
                case round =>
                  clear H'
                  try clear c1
                  try clear c2
                  try clear c2b0
                  try clear c2b1
                  try clear p2
                  try clear c9
                  try clear c9b0
                  try clear c9b1
                  try clear c9b2
                  try clear c10
                  try clear c10b0
                  try clear c10b1
                  try clear c11
                  try clear c12
                  try clear c12b0
                  try clear c12b1
                  try clear c12b2
                  try clear c14
                  try clear c14b0
                  try clear c14b1
                  try clear c15
                  try clear c15b0
                  try clear c15b1
                  try clear c16
                  try clear p2
                  obtain ⟨x10_3, x11_3, rfl, rfl, HA, HK3, HB⟩ := hrel
                  cases gk with
                  | zero => exact absurd HA.out (by simp [laws_FnRootLift.l0])
                  | succ k3 =>
                    have H := HA.out
                    clear HA
                    simp only [laws_FnRootLift.l0] at H
                    by_cases c17 : x11_3 ≤ t201
                    · rw [if_pos c17] at H
                      have c17b0 : decide (x11_3 ≤ t201) = true := decide_eq_true c17
                      clear c17
                      obtain ⟨ji18, hji18⟩ : ∃ j_ : Int, (mn (wrap64 (x10_3 * t200)) 5001) = j_ := ⟨_, rfl⟩
                      replace H : (laws_FnRootLift.l0 k3 t199 t200 t201 ji18 (wrap64 (x11_3 + 1))) = some r := by first | (rw [hji18] at H; exact H) | (simp only [hji18] at H ⊢; exact H)
                      have hji18_ : (if 5001 < (wrap64 (x10_3 * t200)) then 5001 else (wrap64 (x10_3 * t200))) = ji18 := hji18
                      have H' := Aside0.mk H
                      clear H
                      go_wp2
                      go_roundg k3
                      case measure => have := HJ5.out; have := HJ12.out; have := HK3.out; omega
                      case rel => exact ⟨(ji18), (wrap64 (x11_3 + 1)), (by first | rfl | (simp; done) | (simp only [← hji18] <;> (first | rfl | simp)) | (simp [*]; done)), (by first | rfl | (simp; done) | (simp [*]; done)), H', ⟨by have := HJ5.out; have := HJ12.out; have := HK3.out; omega⟩, ⟨by repeat (first | (with_reducible first | exact HB.out | apply below_alloc | apply pw_below_drewN | apply below_drew1) | exact HB.out)⟩⟩
                    · rw [if_neg c17] at H
                      have c17b0 : decide (x11_3 ≤ t201) = false := decide_eq_false c17
                      clear c17
                      replace H := Option.bind_eq_some_iff.mp H
                      obtain ⟨⟨t206, t207⟩, A190, H⟩ := H
                      replace H : ((impl_LocalSquare.f k3 t199 t200).bind fun t208 => (if t208 = true then (if x10_3 > 5000 then (if t207 = true then ((laws_restOf.f (wrap64 ((wrap64 (t206 * t206)) - t199)) x10_3).bind fun t209 => (some (t209 == 0))) else (some true)) else (if t207 = true then ((laws_restOf.f (wrap64 ((wrap64 (t206 * t206)) - t199)) x10_3).bind fun t210 => (some (t210 == 0))) else (some false))) else (some false))) = some r := H
                      have A19 := Aside0.mk A190
                      clear A190
                      replace H := Option.bind_eq_some_iff.mp H
                      obtain ⟨t208, A200, H⟩ := H
                      replace H : (if t208 = true then (if x10_3 > 5000 then (if t207 = true then ((laws_restOf.f (wrap64 ((wrap64 (t206 * t206)) - t199)) x10_3).bind fun t209 => (some (t209 == 0))) else (some true)) else (if t207 = true then ((laws_restOf.f (wrap64 ((wrap64 (t206 * t206)) - t199)) x10_3).bind fun t210 => (some (t210 == 0))) else (some false))) else (some false)) = some r := H
                      have A20 := Aside0.mk A200
                      clear A200
                      by_cases c21 : t208 = true
                      · subst c21
                        have H1 : (if x10_3 > 5000 then (if t207 = true then ((laws_restOf.f (wrap64 ((wrap64 (t206 * t206)) - t199)) x10_3).bind fun t209 => (some (t209 == 0))) else (some true)) else (if t207 = true then ((laws_restOf.f (wrap64 ((wrap64 (t206 * t206)) - t199)) x10_3).bind fun t210 => (some (t210 == 0))) else (some false))) = some r := by rw [if_pos rfl] at H; exact H
                        clear H
                        have H := H1
                        clear H1
                        by_cases c22 : x10_3 > 5000
                        · rw [if_pos c22] at H
                          have c22b0 : decide (5000 < x10_3) = true := decide_eq_true c22
                          clear c22
                          by_cases c23 : t207 = true
                          · subst c23
                            have H1 : ((laws_restOf.f (wrap64 ((wrap64 (t206 * t206)) - t199)) x10_3).bind fun t209 => (some (t209 == 0))) = some r := by rw [if_pos rfl] at H; exact H
                            clear H
                            have H := H1
                            clear H1
                            replace H := Option.bind_eq_some_iff.mp H
                            obtain ⟨t209, A240, H⟩ := H
                            replace H : (some (t209 == 0)) = some r := H
                            have A24 := Aside0.mk A240
                            clear A240
                            obtain rfl := Option.some.inj H
                            go_wp2_with (first | ((with_reducible refine gate_callee (f := 21) rfl ?_); refine goesL_ (some 81) rfl rfl Try.func21 (by kernel_rfl) rfl #[.int .i64 t199, .int .i64 t200, .int .i64 (wrap64 (t201 + 1))] rfl (by (try simp only [List.map_toArray, List.map_cons, List.map_nil]); first | done | rfl | (simp only [List.length_drop, List.length_take]; rfl)) ?_; (with_reducible refine (impl_LocalRoot.calls k3 t199 t200 (wrap64 (t201 + 1)) t206 true _ A19.out).mono ?_); rintro e w' ⟨rfl, ⟨nd, rfl⟩⟩; refine ⟨_, rfl, ?_⟩) | ((with_reducible refine gate_callee (f := 34) rfl ?_); refine goesL_ (some 86) rfl rfl Try.func34 (by kernel_rfl) rfl #[.int .i64 t199, .int .i64 t200] rfl (by (try simp only [List.map_toArray, List.map_cons, List.map_nil]); first | done | rfl | (simp only [List.length_drop, List.length_take]; rfl)) ?_; (with_reducible refine (impl_LocalSquare.calls k3 t199 t200 true _ A20.out).mono ?_); rintro e w' ⟨rfl, ⟨nd, rfl⟩⟩; refine ⟨_, rfl, ?_⟩) | (go_at_call 35; (with_reducible refine (laws_restOf.calls (wrap64 ((wrap64 (t206 * t206)) - t199)) x10_3 t209 _ A24.out).mono ?_); rintro e w' ⟨rfl, ⟨nd, rfl⟩⟩))
                            go_ret
                            exact ⟨by first | rfl | (simp [errW_none, errW_some] <;> rfl) | (simp [*, errW_none, errW_some] <;> rfl), by repeat (first | (with_reducible first | exact HB.out | apply below_alloc | apply pw_below_drewN | apply below_drew1) | exact HB.out)⟩
                          · replace c23 := Bool.eq_false_iff.mpr c23
                            subst c23
                            have H1 : (some true) = some r := by rw [if_neg (show ¬ (false = true) by decide)] at H; exact H
                            clear H
                            have H := H1
                            clear H1
                            obtain rfl := Option.some.inj H
                            go_wp2_with (first | ((with_reducible refine gate_callee (f := 21) rfl ?_); refine goesL_ (some 81) rfl rfl Try.func21 (by kernel_rfl) rfl #[.int .i64 t199, .int .i64 t200, .int .i64 (wrap64 (t201 + 1))] rfl (by (try simp only [List.map_toArray, List.map_cons, List.map_nil]); first | done | rfl | (simp only [List.length_drop, List.length_take]; rfl)) ?_; (with_reducible refine (impl_LocalRoot.calls k3 t199 t200 (wrap64 (t201 + 1)) t206 false _ A19.out).mono ?_); rintro e w' ⟨rfl, ⟨nd, rfl⟩⟩; refine ⟨_, rfl, ?_⟩) | ((with_reducible refine gate_callee (f := 34) rfl ?_); refine goesL_ (some 86) rfl rfl Try.func34 (by kernel_rfl) rfl #[.int .i64 t199, .int .i64 t200] rfl (by (try simp only [List.map_toArray, List.map_cons, List.map_nil]); first | done | rfl | (simp only [List.length_drop, List.length_take]; rfl)) ?_; (with_reducible refine (impl_LocalSquare.calls k3 t199 t200 true _ A20.out).mono ?_); rintro e w' ⟨rfl, ⟨nd, rfl⟩⟩; refine ⟨_, rfl, ?_⟩))
                            go_ret
                            exact ⟨by first | rfl | (simp [errW_none, errW_some] <;> rfl) | (simp [*, errW_none, errW_some] <;> rfl), by repeat (first | (with_reducible first | exact HB.out | apply below_alloc | apply pw_below_drewN | apply below_drew1) | exact HB.out)⟩
                        · rw [if_neg c22] at H
                          have c22b0 : decide (5000 < x10_3) = false := decide_eq_false c22
                          clear c22
                          by_cases c25 : t207 = true
                          · subst c25
                            have H1 : ((laws_restOf.f (wrap64 ((wrap64 (t206 * t206)) - t199)) x10_3).bind fun t210 => (some (t210 == 0))) = some r := by rw [if_pos rfl] at H; exact H
                            clear H
                            have H := H1
                            clear H1
                            replace H := Option.bind_eq_some_iff.mp H
                            obtain ⟨t210, A260, H⟩ := H
                            replace H : (some (t210 == 0)) = some r := H
                            have A26 := Aside0.mk A260
                            clear A260
                            obtain rfl := Option.some.inj H
                            go_wp2_with (first | ((with_reducible refine gate_callee (f := 21) rfl ?_); refine goesL_ (some 81) rfl rfl Try.func21 (by kernel_rfl) rfl #[.int .i64 t199, .int .i64 t200, .int .i64 (wrap64 (t201 + 1))] rfl (by (try simp only [List.map_toArray, List.map_cons, List.map_nil]); first | done | rfl | (simp only [List.length_drop, List.length_take]; rfl)) ?_; (with_reducible refine (impl_LocalRoot.calls k3 t199 t200 (wrap64 (t201 + 1)) t206 true _ A19.out).mono ?_); rintro e w' ⟨rfl, ⟨nd, rfl⟩⟩; refine ⟨_, rfl, ?_⟩) | ((with_reducible refine gate_callee (f := 34) rfl ?_); refine goesL_ (some 86) rfl rfl Try.func34 (by kernel_rfl) rfl #[.int .i64 t199, .int .i64 t200] rfl (by (try simp only [List.map_toArray, List.map_cons, List.map_nil]); first | done | rfl | (simp only [List.length_drop, List.length_take]; rfl)) ?_; (with_reducible refine (impl_LocalSquare.calls k3 t199 t200 true _ A20.out).mono ?_); rintro e w' ⟨rfl, ⟨nd, rfl⟩⟩; refine ⟨_, rfl, ?_⟩) | (go_at_call 35; (with_reducible refine (laws_restOf.calls (wrap64 ((wrap64 (t206 * t206)) - t199)) x10_3 t210 _ A26.out).mono ?_); rintro e w' ⟨rfl, ⟨nd, rfl⟩⟩))
                            go_ret
                            exact ⟨by first | rfl | (simp [errW_none, errW_some] <;> rfl) | (simp [*, errW_none, errW_some] <;> rfl), by repeat (first | (with_reducible first | exact HB.out | apply below_alloc | apply pw_below_drewN | apply below_drew1) | exact HB.out)⟩
                          · replace c25 := Bool.eq_false_iff.mpr c25
                            subst c25
                            have H1 : (some false) = some r := by rw [if_neg (show ¬ (false = true) by decide)] at H; exact H
                            clear H
                            have H := H1
                            clear H1
                            obtain rfl := Option.some.inj H
                            go_wp2_with (first | ((with_reducible refine gate_callee (f := 21) rfl ?_); refine goesL_ (some 81) rfl rfl Try.func21 (by kernel_rfl) rfl #[.int .i64 t199, .int .i64 t200, .int .i64 (wrap64 (t201 + 1))] rfl (by (try simp only [List.map_toArray, List.map_cons, List.map_nil]); first | done | rfl | (simp only [List.length_drop, List.length_take]; rfl)) ?_; (with_reducible refine (impl_LocalRoot.calls k3 t199 t200 (wrap64 (t201 + 1)) t206 false _ A19.out).mono ?_); rintro e w' ⟨rfl, ⟨nd, rfl⟩⟩; refine ⟨_, rfl, ?_⟩) | ((with_reducible refine gate_callee (f := 34) rfl ?_); refine goesL_ (some 86) rfl rfl Try.func34 (by kernel_rfl) rfl #[.int .i64 t199, .int .i64 t200] rfl (by (try simp only [List.map_toArray, List.map_cons, List.map_nil]); first | done | rfl | (simp only [List.length_drop, List.length_take]; rfl)) ?_; (with_reducible refine (impl_LocalSquare.calls k3 t199 t200 true _ A20.out).mono ?_); rintro e w' ⟨rfl, ⟨nd, rfl⟩⟩; refine ⟨_, rfl, ?_⟩))
                            go_ret
                            exact ⟨by first | rfl | (simp [errW_none, errW_some] <;> rfl) | (simp [*, errW_none, errW_some] <;> rfl), by repeat (first | (with_reducible first | exact HB.out | apply below_alloc | apply pw_below_drewN | apply below_drew1) | exact HB.out)⟩
                      · replace c21 := Bool.eq_false_iff.mpr c21
                        subst c21
                        have H1 : (some false) = some r := by rw [if_neg (show ¬ (false = true) by decide)] at H; exact H
                        clear H
                        have H := H1
                        clear H1
                        obtain rfl := Option.some.inj H
                        go_wp2_with (first | ((with_reducible refine gate_callee (f := 21) rfl ?_); refine goesL_ (some 81) rfl rfl Try.func21 (by kernel_rfl) rfl #[.int .i64 t199, .int .i64 t200, .int .i64 (wrap64 (t201 + 1))] rfl (by (try simp only [List.map_toArray, List.map_cons, List.map_nil]); first | done | rfl | (simp only [List.length_drop, List.length_take]; rfl)) ?_; (with_reducible refine (impl_LocalRoot.calls k3 t199 t200 (wrap64 (t201 + 1)) t206 t207 _ A19.out).mono ?_); rintro e w' ⟨rfl, ⟨nd, rfl⟩⟩; refine ⟨_, rfl, ?_⟩) | ((with_reducible refine gate_callee (f := 34) rfl ?_); refine goesL_ (some 86) rfl rfl Try.func34 (by kernel_rfl) rfl #[.int .i64 t199, .int .i64 t200] rfl (by (try simp only [List.map_toArray, List.map_cons, List.map_nil]); first | done | rfl | (simp only [List.length_drop, List.length_take]; rfl)) ?_; (with_reducible refine (impl_LocalSquare.calls k3 t199 t200 false _ A20.out).mono ?_); rintro e w' ⟨rfl, ⟨nd, rfl⟩⟩; refine ⟨_, rfl, ?_⟩))
                        go_ret
                        exact ⟨by first | rfl | (simp [errW_none, errW_some] <;> rfl) | (simp [*, errW_none, errW_some] <;> rfl), by repeat (first | (with_reducible first | exact HB.out | apply below_alloc | apply pw_below_drewN | apply below_drew1) | exact HB.out)⟩

/-- THE ONE PURE STATEMENT of laws_FnRootLift: yours. -/
def laws_FnRootLift.Pure : Prop := ∀ (l0 : List Int), l0.length ≤ maxLen → l0.length * 1 ≤ 140737488351232 → (∀ x ∈ l0, (Lit.int .u8 x).wf = true) → ∃ k, laws_FnRootLift.f k l0 = some true
theorem laws_FnRootLift.walk (P : laws_FnRootLift.Pure) (a0 : Option Addr) (len0 cap0 : Nat) (z0 : List Int) (w : World) (w0 : (a0 = none ∧ len0 = 0 ∧ cap0 = 0 ∧ z0 = []) ∨ ∃ x, a0 = some x ∧ len0 ≤ cap0 ∧ cap0 ≤ maxLen ∧ z0.length = cap0 ∧ (∀ i, i < z0.length → w.cell? (x.add i) = some (.int .u8 (z0.getD i 0))) ∧ ∀ n ∈ z0, (Lit.int .u8 n).wf = true) (y0 : len0 * 1 ≤ 140737488351232) :
    Calls Try.prog 10 #[.slice a0 len0 cap0] w fun e w' => e = .returned (.bool true) ∧ Below w.heap.size w w' := by
  obtain ⟨l0, rfl, hr0, hm0, hw0, hc0⟩ := ReadsInt.ofRowC w0
  obtain ⟨k, h⟩ := P l0 hm0 y0 hw0
  refine (laws_FnRootLift.calls k _ _ l0 true w (Kd.C_of_reads (d := (0 : Int)) (h1 := fun _ => rfl) hr0) hc0 h).mono ?_
  rintro e w' ⟨rfl, hd⟩
  exact ⟨rfl, hd⟩

end Go.Proofs.Ytpcocojkhcokmaa.PFnRootLift
