-- PRINTED BY print.sh 35421559b90ae4d0a3588c463048766b98c2df88dd9212a6774a882060cdf62d: not written by this session
import Derived.Test.YtpcocojkhcokmaaPFnReciprocityx0
import Derived.Test.YtpcocojkhcokmaaPFnReciprocityx1
import Derived.Test.YtpcocojkhcokmaaPFnReciprocityx2
import Derived.Test.YtpcocojkhcokmaaPFnReciprocityx3
namespace Go.Proofs.Ytpcocojkhcokmaa.PFnReciprocity
open Go.RowKit Go.Proofs.YtpcocojkhcokmaaW.PrintWords Go.Proofs.YtpcocojkhcokmaaW.PrintLast Go.Proofs.YtpcocojkhcokmaaW.PrintMore
attribute [local go_sem] max2_int min2_int max_two min_two max_three min_three max_four min_four   -- for this text's walks alone
set_option linter.unusedVariables false
set_option linter.unusedSimpArgs false

/-! ### laws_FnReciprocity: function 7 -/
mutual
def laws_FnReciprocity.j0 : Nat → Int → Int → Int → Int → Bool → Option (Bool)
  | 0, _, _, _, _, _ => none
  | k + 1, x3, x4, x5, x6, x30 => if x30 = true then (some (x5 == x6)) else ((impl_GcdOf.f k x3 x4).bind fun t187 => (if x3 < 1 then (laws_FnReciprocity.j1 k x3 x4 x5 ((x5 == 0) == (decide (t187 > 1))) true) else (laws_FnReciprocity.j1 k x3 x4 x5 ((x5 == 0) == (decide (t187 > 1))) ((Int.tmod x3 2) == 0))))
def laws_FnReciprocity.j1 : Nat → Int → Int → Int → Bool → Bool → Option (Bool)
  | 0, _, _, _, _, _ => none
  | k + 1, x3, x4, x5, x7, x47 => if x47 = true then (some x7) else ((impl_JacobiOf.f k x4 x3).bind fun t188 => (if (Int.tmod x3 4) = 3 then (if (Int.tmod x4 4) = 3 then (if x7 = true then (some (t188 == (wrap64 ((-1) * x5)))) else (some false)) else (if x7 = true then (some (t188 == (wrap64 (1 * x5)))) else (some false))) else (if x7 = true then (some (t188 == (wrap64 (1 * x5)))) else (some false))))
end
def laws_FnReciprocity.f (k : Nat) (l0 : List Int) : Option (Bool) := if (l0.length : Int) > 1048576 then (some true) else ((spec_DrawJacobiOf.f k l0).bind fun bt183 => ((impl_JacobiOf.f k bt183.1 bt183.2).bind fun t185 => ((spec_JacobiOf.f k bt183.1 bt183.2).bind fun t186 => (if t185 = t186 then (laws_FnReciprocity.j0 k bt183.1 bt183.2 t185 t186 (t185 == (-2))) else (laws_FnReciprocity.j0 k bt183.1 bt183.2 t185 t186 true)))))
theorem laws_FnReciprocity.mono_l : ∀ k, (∀ y0 y1 y2 y3 y4, LeO (laws_FnReciprocity.j0 k y0 y1 y2 y3 y4) (laws_FnReciprocity.j0 (k + 1) y0 y1 y2 y3 y4)) ∧ (∀ y0 y1 y2 y3 y4, LeO (laws_FnReciprocity.j1 k y0 y1 y2 y3 y4) (laws_FnReciprocity.j1 (k + 1) y0 y1 y2 y3 y4))
  | 0 => ⟨fun _ _ _ _ _ r h => by simp [laws_FnReciprocity.j0] at h, fun _ _ _ _ _ r h => by simp [laws_FnReciprocity.j1] at h⟩
  | k + 1 => by
    obtain ⟨ih0, ih1⟩ := laws_FnReciprocity.mono_l k
    refine ⟨?_, ?_⟩
    · intro y0 y1 y2 y3 y4
      unfold laws_FnReciprocity.j0
      repeat' first
      | (with_reducible exact ih0 _ _ _ _ _)
      | (with_reducible exact ih1 _ _ _ _ _)
      | (with_reducible exact impl_GcdOf.mono _ _ _)
      | (with_reducible exact impl_JacobiOf.mono _ _ _)
      | (with_reducible exact spec_DrawJacobiOf.mono _ _)
      | (with_reducible exact spec_JacobiOf.mono _ _ _)
      | (with_reducible exact LeO.refl _)
      | (with_reducible exact LeO.none _)
      | (with_reducible refine LeO.ite ?_ ?_)
      | (with_reducible refine LeO.bind ?_ (fun _ => ?_))
      | exact ih0 _ _ _ _ _
      | exact ih1 _ _ _ _ _
      | exact impl_GcdOf.mono _ _ _
      | exact impl_JacobiOf.mono _ _ _
      | exact spec_DrawJacobiOf.mono _ _
      | exact spec_JacobiOf.mono _ _ _
      | exact LeO.none _
      | refine LeO.ite ?_ ?_
      | refine LeO.bind ?_ (fun _ => ?_)
    · intro y0 y1 y2 y3 y4
      unfold laws_FnReciprocity.j1
      repeat' first
      | (with_reducible exact ih0 _ _ _ _ _)
      | (with_reducible exact ih1 _ _ _ _ _)
      | (with_reducible exact impl_GcdOf.mono _ _ _)
      | (with_reducible exact impl_JacobiOf.mono _ _ _)
      | (with_reducible exact spec_DrawJacobiOf.mono _ _)
      | (with_reducible exact spec_JacobiOf.mono _ _ _)
      | (with_reducible exact LeO.refl _)
      | (with_reducible exact LeO.none _)
      | (with_reducible refine LeO.ite ?_ ?_)
      | (with_reducible refine LeO.bind ?_ (fun _ => ?_))
      | exact ih0 _ _ _ _ _
      | exact ih1 _ _ _ _ _
      | exact impl_GcdOf.mono _ _ _
      | exact impl_JacobiOf.mono _ _ _
      | exact spec_DrawJacobiOf.mono _ _
      | exact spec_JacobiOf.mono _ _ _
      | exact LeO.none _
      | refine LeO.ite ?_ ?_
      | refine LeO.bind ?_ (fun _ => ?_)
theorem laws_FnReciprocity.mono : ∀ a0 k, LeO (laws_FnReciprocity.f k a0) (laws_FnReciprocity.f (k + 1) a0) := by
  intro a0 k
  obtain ⟨ih0, ih1⟩ := laws_FnReciprocity.mono_l k
  unfold laws_FnReciprocity.f
  repeat' first
      | (with_reducible exact ih0 _ _ _ _ _)
      | (with_reducible exact ih1 _ _ _ _ _)
      | (with_reducible exact impl_GcdOf.mono _ _ _)
      | (with_reducible exact impl_JacobiOf.mono _ _ _)
      | (with_reducible exact spec_DrawJacobiOf.mono _ _)
      | (with_reducible exact spec_JacobiOf.mono _ _ _)
      | (with_reducible exact LeO.refl _)
      | (with_reducible exact LeO.none _)
      | (with_reducible refine LeO.ite ?_ ?_)
      | (with_reducible refine LeO.bind ?_ (fun _ => ?_))
      | exact ih0 _ _ _ _ _
      | exact ih1 _ _ _ _ _
      | exact impl_GcdOf.mono _ _ _
      | exact impl_JacobiOf.mono _ _ _
      | exact spec_DrawJacobiOf.mono _ _
      | exact spec_JacobiOf.mono _ _ _
      | exact LeO.none _
      | refine LeO.ite ?_ ?_
      | refine LeO.bind ?_ (fun _ => ?_)
set_option maxHeartbeats 8000000 in
set_option maxRecDepth 100000 in
theorem laws_FnReciprocity.calls (k : Nat) (A0 : Option Addr) (c0 : Nat) (l0 : List Int) (r : Bool) (w : World) (hr0 : Kd.C (Kd.int .u8) w A0 l0.length l0) (hc0 : l0.length ≤ c0) (h : laws_FnReciprocity.f k l0 = some r) :
    Calls Try.prog 7 #[.slice A0 l0.length c0] w fun e w' => e = .returned (.bool r) ∧ Below w.heap.size w w' := by
  have HR0 := Aside0.mk hr0
  have HC0 := Aside0.mk hc0
  clear hr0 hc0
  have HB := Aside0.mk (Below.refl w.heap.size w)
  have H : (if (l0.length : Int) > 1048576 then (some true) else ((spec_DrawJacobiOf.f k l0).bind fun bt183 => ((impl_JacobiOf.f k bt183.1 bt183.2).bind fun t185 => ((spec_JacobiOf.f k bt183.1 bt183.2).bind fun t186 => (if t185 = t186 then (laws_FnReciprocity.j0 k bt183.1 bt183.2 t185 t186 (t185 == (-2))) else (laws_FnReciprocity.j0 k bt183.1 bt183.2 t185 t186 true)))))) = some r := h
  clear h
  by_cases c2 : (l0.length : Int) > 1048576
  · rw [if_pos c2] at H
    have c2b0 : decide (1048576 < (l0.length : Int)) = true := decide_eq_true c2
    have c2b1 : decide (1048576 < l0.length) = true := decide_eq_true (by omega)
    clear c2
    obtain rfl := Option.some.inj H
    go_enter Try.func7, Try.ntmps7
    go_wp2
    go_ret
    exact ⟨by first | rfl | (simp [errW_none, errW_some] <;> rfl) | (simp [*, errW_none, errW_some] <;> rfl), by repeat (first | (with_reducible first | exact HB.out | apply below_alloc | apply pw_below_drewN | apply below_drew1) | exact HB.out)⟩
  · rw [if_neg c2] at H
    have c2b0 : decide (1048576 < (l0.length : Int)) = false := decide_eq_false c2
    have c2b1 : decide (1048576 < l0.length) = false := decide_eq_false (by omega)
    clear c2
    replace H := Option.bind_eq_some_iff.mp H
    obtain ⟨⟨t183, t184⟩, A30, H⟩ := H
    replace H : ((impl_JacobiOf.f k t183 t184).bind fun t185 => ((spec_JacobiOf.f k t183 t184).bind fun t186 => (if t185 = t186 then (laws_FnReciprocity.j0 k t183 t184 t185 t186 (t185 == (-2))) else (laws_FnReciprocity.j0 k t183 t184 t185 t186 true)))) = some r := H
    have A3 := Aside0.mk A30
    clear A30
    replace H := Option.bind_eq_some_iff.mp H
    obtain ⟨t185, A40, H⟩ := H
    replace H : ((spec_JacobiOf.f k t183 t184).bind fun t186 => (if t185 = t186 then (laws_FnReciprocity.j0 k t183 t184 t185 t186 (t185 == (-2))) else (laws_FnReciprocity.j0 k t183 t184 t185 t186 true))) = some r := H
    have A4 := Aside0.mk A40
    clear A40
    replace H := Option.bind_eq_some_iff.mp H
    obtain ⟨t186, A50, H⟩ := H
    replace H : (if t185 = t186 then (laws_FnReciprocity.j0 k t183 t184 t185 t186 (t185 == (-2))) else (laws_FnReciprocity.j0 k t183 t184 t185 t186 true)) = some r := H
    have A5 := Aside0.mk A50
    clear A50
    have HC6 := Aside0.mk H
    clear H
    go_enter Try.func7, Try.ntmps7
    go_upto_region 6 with (first | ((with_reducible refine gate_callee (f := 26) rfl ?_); refine goesL_ (some 15) rfl rfl Try.func26 (by kernel_rfl) rfl #[.slice A0 l0.length c0] rfl (by (try simp only [List.map_toArray, List.map_cons, List.map_nil]); first | done | rfl | (simp only [List.length_drop, List.length_take]; rfl)) ?_; (with_reducible refine (spec_DrawJacobiOf.calls k _ _ l0 t183 t184 _ ?side1 ?side2 A3.out).mono ?_); (case side1 => repeat (first | exact HR0.out | (with_reducible refine Kd.C_alloc ?_ _) | (with_reducible refine Kd.C_drewN ?_ _) | (with_reducible refine Kd.C_drew ?_))); (case side2 => exact HC0.out); rintro e w7 ⟨rfl, hb⟩; refine ⟨_, rfl, ?_⟩; have n0_ := Aside0.mk (below_step (by repeat (first | (with_reducible first | exact HB.out | apply below_alloc | apply pw_below_drewN | apply below_drew1) | exact HB.out)) hb); clear HB; have HB := n0_; clear n0_; (try clear hb); (try clear hb2); (try clear hk); (try clear hi)) | ((with_reducible refine gate_callee (f := 27) rfl ?_); refine goesL_ (some 20) rfl rfl Try.func27 (by kernel_rfl) rfl #[.int .i64 t183, .int .i64 t184] rfl (by (try simp only [List.map_toArray, List.map_cons, List.map_nil]); first | done | rfl | (simp only [List.length_drop, List.length_take]; rfl)) ?_; (with_reducible refine (impl_JacobiOf.calls k t183 t184 t185 _ A4.out).mono ?_); rintro e w8 ⟨rfl, hb⟩; refine ⟨_, rfl, ?_⟩; have n0_ := Aside0.mk (below_step (by repeat (first | (with_reducible first | exact HB.out | apply below_alloc | apply pw_below_drewN | apply below_drew1) | exact HB.out)) hb); clear HB; have HB := n0_; clear n0_; (try clear hb); (try clear hb2); (try clear hk); (try clear hi)) | ((with_reducible refine gate_callee (f := 28) rfl ?_); refine goesL_ (some 23) rfl rfl Try.func28 (by kernel_rfl) rfl #[.int .i64 t183, .int .i64 t184] rfl (by (try simp only [List.map_toArray, List.map_cons, List.map_nil]); first | done | rfl | (simp only [List.length_drop, List.length_take]; rfl)) ?_; (with_reducible refine (spec_JacobiOf.calls k t183 t184 t186 _ A5.out).mono ?_); rintro e w9 ⟨rfl, hb⟩; refine ⟨_, rfl, ?_⟩; have n0_ := Aside0.mk (below_step (by repeat (first | (with_reducible first | exact HB.out | apply below_alloc | apply pw_below_drewN | apply below_drew1) | exact HB.out)) hb); clear HB; have HB := n0_; clear n0_; (try clear hb); (try clear hb2); (try clear hk); (try clear hi)))
    (try simp only [Act.put, List.setIfInBounds_toArray, List.set_cons_zero, List.set_cons_succ])
    go_cut [30] (fun v30 wc => ∃ (kq : Nat) (x30_5 : Bool), v30 = .bool x30_5 ∧ Aside0 (laws_FnReciprocity.j0 kq t183 t184 t185 t186 x30_5 = some r) ∧ Aside0 (kq ≤ k) ∧ Aside0 (Below w.heap.size w wc))
    case first =>
      have H := HC6.out
      clear HC6
      by_cases c10 : t185 = t186
      · rw [if_pos c10] at H
        have c10b0 : (t185 == t186) = true := beq_iff_eq.mpr c10
        have c10b1 : (t185 != t186) = false := bne_eq_false_iff_eq.mpr c10
        clear c10
        (first | rw [c10b0] | (simp only [i64_w, i32_w]; rw [c10b0]) | skip)
        have H' := Aside0.mk H
        clear H
        go_wp2
        go_meet
        case rel => exact ⟨_, ((t185 == (-2))), (by first | rfl | (simp; done) | (simp [*]; done)), H', ⟨by first | omega | exact Nat.le_refl _⟩, ⟨by repeat (first | (with_reducible first | exact HB.out | apply below_alloc | apply pw_below_drewN | apply below_drew1) | exact HB.out)⟩⟩
      · rw [if_neg c10] at H
        have c10b0 : (t185 == t186) = false := beq_eq_false_iff_ne.mpr c10
        have c10b1 : (t185 != t186) = true := bne_iff_ne.mpr c10
        (first | rw [c10b0] | (simp only [i64_w, i32_w]; rw [c10b0]) | skip)
        have H' := Aside0.mk H
        clear H
        go_wp2
        go_meet
        case rel => exact ⟨_, (true), (by first | rfl | (simp; done) | (simp [*]; done)), H', ⟨by first | omega | exact Nat.le_refl _⟩, ⟨by repeat (first | (with_reducible first | exact HB.out | apply below_alloc | apply pw_below_drewN | apply below_drew1) | exact HB.out)⟩⟩
    case rest =>
      clear HC6
      try clear c1
      try clear c2
      try clear c2b0
      try clear c2b1
      try clear p2
      try clear c7
      try clear c10
      try clear c10b0
      try clear c10b1
      obtain ⟨kq, x30_5, rfl, HA, HJ5, HB⟩ := hcut
      cases kq with
      | zero => exact absurd HA.out (by simp [laws_FnReciprocity.j0])
      | succ kj5 =>
        have H := HA.out
        clear HA
        simp only [laws_FnReciprocity.j0] at H
        by_cases c11 : x30_5 = true
        · subst c11
          have H1 : (some (t185 == t186)) = some r := by rw [if_pos rfl] at H; exact H
          clear H
          have H := H1
          clear H1
          obtain rfl := Option.some.inj H
          go_wp2
          go_ret
          exact ⟨by first | rfl | (simp [errW_none, errW_some] <;> rfl) | (simp [*, errW_none, errW_some] <;> rfl), by repeat (first | (with_reducible first | exact HB.out | apply below_alloc | apply pw_below_drewN | apply below_drew1) | exact HB.out)⟩
        · replace c11 := Bool.eq_false_iff.mpr c11
          subst c11
          have H1 : ((impl_GcdOf.f kj5 t183 t184).bind fun t187 => (if t183 < 1 then (laws_FnReciprocity.j1 kj5 t183 t184 t185 ((t185 == 0) == (decide (t187 > 1))) true) else (laws_FnReciprocity.j1 kj5 t183 t184 t185 ((t185 == 0) == (decide (t187 > 1))) ((Int.tmod t183 2) == 0)))) = some r := by rw [if_neg (show ¬ (false = true) by decide)] at H; exact H
          clear H
          have H := H1
          clear H1
          replace H := Option.bind_eq_some_iff.mp H
          obtain ⟨t187, A120, H⟩ := H
          replace H : (if t183 < 1 then (laws_FnReciprocity.j1 kj5 t183 t184 t185 ((t185 == 0) == (decide (t187 > 1))) true) else (laws_FnReciprocity.j1 kj5 t183 t184 t185 ((t185 == 0) == (decide (t187 > 1))) ((Int.tmod t183 2) == 0))) = some r := H
          have A12 := Aside0.mk A120
          clear A120
          have HC13 := Aside0.mk H
          clear H
          go_upto_region 9 with (first | ((with_reducible refine gate_callee (f := 29) rfl ?_); refine goesL_ (some 38) rfl rfl Try.func29 (by kernel_rfl) rfl #[.int .i64 t183, .int .i64 t184] rfl (by (try simp only [List.map_toArray, List.map_cons, List.map_nil]); first | done | rfl | (simp only [List.length_drop, List.length_take]; rfl)) ?_; (with_reducible refine (impl_GcdOf.calls kj5 t183 t184 t187 _ A12.out).mono ?_); rintro e w14 ⟨rfl, hb⟩; refine ⟨_, rfl, ?_⟩; have n0_ := Aside0.mk (below_step (by repeat (first | (with_reducible first | exact HB.out | apply below_alloc | apply pw_below_drewN | apply below_drew1) | exact HB.out)) hb); clear HB; have HB := n0_; clear n0_; (try clear hb); (try clear hb2); (try clear hk); (try clear hi)))
          (try simp only [Act.put, List.setIfInBounds_toArray, List.set_cons_zero, List.set_cons_succ])
          go_cut [47] (fun v47 wc => ∃ (kq : Nat) (x47_12 : Bool), v47 = .bool x47_12 ∧ Aside0 (laws_FnReciprocity.j1 kq t183 t184 t185 ((t185 == 0) == (decide (t187 > 1))) x47_12 = some r) ∧ Aside0 (kq ≤ kj5) ∧ Aside0 (Below w.heap.size w wc))
          case first =>
            have H := HC13.out
            clear HC13
            by_cases c15 : t183 < 1
            · rw [if_pos c15] at H
              have c15b0 : decide (t183 < 1) = true := decide_eq_true c15
              clear c15
              (first | rw [c15b0] | (simp only [i64_w, i32_w]; rw [c15b0]) | skip)
              have H' := Aside0.mk H
              clear H
              go_wp2
              go_meet
              case rel => exact ⟨_, (true), (by first | rfl | (simp; done) | (simp [*]; done)), H', ⟨by have := HJ5.out; first | omega | exact Nat.le_refl _⟩, ⟨by repeat (first | (with_reducible first | exact HB.out | apply below_alloc | apply pw_below_drewN | apply below_drew1) | exact HB.out)⟩⟩
            · rw [if_neg c15] at H
              have c15b0 : decide (t183 < 1) = false := decide_eq_false c15
              clear c15
              (first | rw [c15b0] | (simp only [i64_w, i32_w]; rw [c15b0]) | skip)
              have H' := Aside0.mk H
              clear H
              go_wp2
              go_meet
              case rel => exact ⟨_, (((Int.tmod t183 2) == 0)), (by first | rfl | (simp; done) | (simp [*]; done)), H', ⟨by have := HJ5.out; first | omega | exact Nat.le_refl _⟩, ⟨by repeat (first | (with_reducible first | exact HB.out | apply below_alloc | apply pw_below_drewN | apply below_drew1) | exact HB.out)⟩⟩
          case rest =>
            clear HC13
            try clear c1
            try clear c2
            try clear c2b0
            try clear c2b1
            try clear p2
            try clear c7
            try clear c10
            try clear c10b0
            try clear c10b1
            try clear c11
            try clear c15
            try clear c15b0
            try clear p2
            obtain ⟨kq, x47_12, rfl, HA, HJ12, HB⟩ := hcut
            cases kq with
            | zero => exact absurd HA.out (by simp [laws_FnReciprocity.j1])
            | succ kj12 =>
              have H := HA.out
              clear HA
              simp only [laws_FnReciprocity.j1] at H
              by_cases c16 : x47_12 = true
              · subst c16
                have H1 : (some ((t185 == 0) == (decide (t187 > 1)))) = some r := by rw [if_pos rfl] at H; exact H
                clear H
                have H := H1
                clear H1
                obtain rfl := Option.some.inj H
                go_wp2
                go_ret
                exact ⟨by first | rfl | (simp [errW_none, errW_some] <;> rfl) | (simp [*, errW_none, errW_some] <;> rfl), by repeat (first | (with_reducible first | exact HB.out | apply below_alloc | apply pw_below_drewN | apply below_drew1) | exact HB.out)⟩
              · replace c16 := Bool.eq_false_iff.mpr c16
                subst c16
                have H1 : ((impl_JacobiOf.f kj12 t184 t183).bind fun t188 => (if (Int.tmod t183 4) = 3 then (if (Int.tmod t184 4) = 3 then (if ((t185 == 0) == (decide (t187 > 1))) = true then (some (t188 == (wrap64 ((-1) * t185)))) else (some false)) else (if ((t185 == 0) == (decide (t187 > 1))) = true then (some (t188 == (wrap64 (1 * t185)))) else (some false))) else (if ((t185 == 0) == (decide (t187 > 1))) = true then (some (t188 == (wrap64 (1 * t185)))) else (some false)))) = some r := by rw [if_neg (show ¬ (false = true) by decide)] at H; exact H
                clear H
                have H := H1
                clear H1
                replace H := Option.bind_eq_some_iff.mp H
                obtain ⟨t188, A170, H⟩ := H
                replace H : (if (Int.tmod t183 4) = 3 then (if (Int.tmod t184 4) = 3 then (if ((t185 == 0) == (decide (t187 > 1))) = true then (some (t188 == (wrap64 ((-1) * t185)))) else (some false)) else (if ((t185 == 0) == (decide (t187 > 1))) = true then (some (t188 == (wrap64 (1 * t185)))) else (some false))) else (if ((t185 == 0) == (decide (t187 > 1))) = true then (some (t188 == (wrap64 (1 * t185)))) else (some false))) = some r := H
                have A17 := Aside0.mk A170
                clear A170
                by_cases c18 : (Int.tmod t183 4) = 3
                · rw [if_pos c18] at H
                  have c18b0 : ((Int.tmod t183 4) == 3) = true := beq_iff_eq.mpr c18
                  have c18b1 : ((Int.tmod t183 4) != 3) = false := bne_eq_false_iff_eq.mpr c18
                  clear c18
                  by_cases c19 : (Int.tmod t184 4) = 3
                  · rw [if_pos c19] at H
                    have c19b0 : ((Int.tmod t184 4) == 3) = true := beq_iff_eq.mpr c19
                    have c19b1 : ((Int.tmod t184 4) != 3) = false := bne_eq_false_iff_eq.mpr c19
                    clear c19
                    by_cases c20 : ((t185 == 0) == (decide (t187 > 1))) = true
                    · rw [if_pos c20] at H
                      have c20b0 : ((t185 == 0) == (decide (t187 > 1))) = true := c20
                      (try (have c20b1 : decide ((t185 == 0) = (decide (t187 > 1))) = true := by simpa using c20))
                      (try (have c20b2 : ((t185 == 0) == (decide (t187 > 1))) = true := by simpa using c20))
                      clear c20
                      obtain rfl := Option.some.inj H
                      go_wp2_with (first | ((with_reducible refine gate_callee (f := 27) rfl ?_); refine goesL_ (some 51) rfl rfl Try.func27 (by kernel_rfl) rfl #[.int .i64 t184, .int .i64 t183] rfl (by (try simp only [List.map_toArray, List.map_cons, List.map_nil]); first | done | rfl | (simp only [List.length_drop, List.length_take]; rfl)) ?_; (with_reducible refine (impl_JacobiOf.calls kj12 t184 t183 t188 _ A17.out).mono ?_); rintro e w21 ⟨rfl, hb⟩; refine ⟨_, rfl, ?_⟩; have n0_ := Aside0.mk (below_step (by repeat (first | (with_reducible first | exact HB.out | apply below_alloc | apply pw_below_drewN | apply below_drew1) | exact HB.out)) hb); clear HB; have HB := n0_; clear n0_; (try clear hb); (try clear hb2); (try clear hk); (try clear hi)))
                      go_ret
                      exact ⟨by first | rfl | (simp [errW_none, errW_some] <;> rfl) | (simp [*, errW_none, errW_some] <;> rfl), by repeat (first | (with_reducible first | exact HB.out | apply below_alloc | apply pw_below_drewN | apply below_drew1) | exact HB.out)⟩
                    · rw [if_neg c20] at H
                      have c20b0 : ((t185 == 0) == (decide (t187 > 1))) = false := by simpa using c20
                      (try (have c20b1 : decide ((t185 == 0) = (decide (t187 > 1))) = false := by simpa using c20))
                      (try (have c20b2 : ((t185 == 0) == (decide (t187 > 1))) = false := by simpa using c20))
                      (try (have c20b3 : ¬ ((t185 == 0) = (decide (t187 > 1))) := by simpa using c20))
                      clear c20
                      obtain rfl := Option.some.inj H
                      go_wp2_with (first | ((with_reducible refine gate_callee (f := 27) rfl ?_); refine goesL_ (some 51) rfl rfl Try.func27 (by kernel_rfl) rfl #[.int .i64 t184, .int .i64 t183] rfl (by (try simp only [List.map_toArray, List.map_cons, List.map_nil]); first | done | rfl | (simp only [List.length_drop, List.length_take]; rfl)) ?_; (with_reducible refine (impl_JacobiOf.calls kj12 t184 t183 t188 _ A17.out).mono ?_); rintro e w22 ⟨rfl, hb⟩; refine ⟨_, rfl, ?_⟩; have n0_ := Aside0.mk (below_step (by repeat (first | (with_reducible first | exact HB.out | apply below_alloc | apply pw_below_drewN | apply below_drew1) | exact HB.out)) hb); clear HB; have HB := n0_; clear n0_; (try clear hb); (try clear hb2); (try clear hk); (try clear hi)))
                      go_ret
                      exact ⟨by first | rfl | (simp [errW_none, errW_some] <;> rfl) | (simp [*, errW_none, errW_some] <;> rfl), by repeat (first | (with_reducible first | exact HB.out | apply below_alloc | apply pw_below_drewN | apply below_drew1) | exact HB.out)⟩
                  · rw [if_neg c19] at H
                    have c19b0 : ((Int.tmod t184 4) == 3) = false := beq_eq_false_iff_ne.mpr c19
                    have c19b1 : ((Int.tmod t184 4) != 3) = true := bne_iff_ne.mpr c19
                    by_cases c23 : ((t185 == 0) == (decide (t187 > 1))) = true
                    · rw [if_pos c23] at H
                      have c23b0 : ((t185 == 0) == (decide (t187 > 1))) = true := c23
                      (try (have c23b1 : decide ((t185 == 0) = (decide (t187 > 1))) = true := by simpa using c23))
                      (try (have c23b2 : ((t185 == 0) == (decide (t187 > 1))) = true := by simpa using c23))
                      clear c23
                      obtain rfl := Option.some.inj H
                      go_wp2_with (first | ((with_reducible refine gate_callee (f := 27) rfl ?_); refine goesL_ (some 51) rfl rfl Try.func27 (by kernel_rfl) rfl #[.int .i64 t184, .int .i64 t183] rfl (by (try simp only [List.map_toArray, List.map_cons, List.map_nil]); first | done | rfl | (simp only [List.length_drop, List.length_take]; rfl)) ?_; (with_reducible refine (impl_JacobiOf.calls kj12 t184 t183 t188 _ A17.out).mono ?_); rintro e w24 ⟨rfl, hb⟩; refine ⟨_, rfl, ?_⟩; have n0_ := Aside0.mk (below_step (by repeat (first | (with_reducible first | exact HB.out | apply below_alloc | apply pw_below_drewN | apply below_drew1) | exact HB.out)) hb); clear HB; have HB := n0_; clear n0_; (try clear hb); (try clear hb2); (try clear hk); (try clear hi)))
                      go_ret
                      exact ⟨by first | rfl | (simp [errW_none, errW_some] <;> rfl) | (simp [*, errW_none, errW_some] <;> rfl), by repeat (first | (with_reducible first | exact HB.out | apply below_alloc | apply pw_below_drewN | apply below_drew1) | exact HB.out)⟩
                    · rw [if_neg c23] at H
                      have c23b0 : ((t185 == 0) == (decide (t187 > 1))) = false := by simpa using c23
                      (try (have c23b1 : decide ((t185 == 0) = (decide (t187 > 1))) = false := by simpa using c23))
                      (try (have c23b2 : ((t185 == 0) == (decide (t187 > 1))) = false := by simpa using c23))
                      (try (have c23b3 : ¬ ((t185 == 0) = (decide (t187 > 1))) := by simpa using c23))
                      clear c23
                      obtain rfl := Option.some.inj H
                      go_wp2_with (first | ((with_reducible refine gate_callee (f := 27) rfl ?_); refine goesL_ (some 51) rfl rfl Try.func27 (by kernel_rfl) rfl #[.int .i64 t184, .int .i64 t183] rfl (by (try simp only [List.map_toArray, List.map_cons, List.map_nil]); first | done | rfl | (simp only [List.length_drop, List.length_take]; rfl)) ?_; (with_reducible refine (impl_JacobiOf.calls kj12 t184 t183 t188 _ A17.out).mono ?_); rintro e w25 ⟨rfl, hb⟩; refine ⟨_, rfl, ?_⟩; have n0_ := Aside0.mk (below_step (by repeat (first | (with_reducible first | exact HB.out | apply below_alloc | apply pw_below_drewN | apply below_drew1) | exact HB.out)) hb); clear HB; have HB := n0_; clear n0_; (try clear hb); (try clear hb2); (try clear hk); (try clear hi)))
                      go_ret
                      exact ⟨by first | rfl | (simp [errW_none, errW_some] <;> rfl) | (simp [*, errW_none, errW_some] <;> rfl), by repeat (first | (with_reducible first | exact HB.out | apply below_alloc | apply pw_below_drewN | apply below_drew1) | exact HB.out)⟩
                · rw [if_neg c18] at H
                  have c18b0 : ((Int.tmod t183 4) == 3) = false := beq_eq_false_iff_ne.mpr c18
                  have c18b1 : ((Int.tmod t183 4) != 3) = true := bne_iff_ne.mpr c18
                  by_cases c26 : ((t185 == 0) == (decide (t187 > 1))) = true
                  · rw [if_pos c26] at H
                    have c26b0 : ((t185 == 0) == (decide (t187 > 1))) = true := c26
                    (try (have c26b1 : decide ((t185 == 0) = (decide (t187 > 1))) = true := by simpa using c26))
                    (try (have c26b2 : ((t185 == 0) == (decide (t187 > 1))) = true := by simpa using c26))
                    clear c26
                    obtain rfl := Option.some.inj H
                    go_wp2_with (first | ((with_reducible refine gate_callee (f := 27) rfl ?_); refine goesL_ (some 51) rfl rfl Try.func27 (by kernel_rfl) rfl #[.int .i64 t184, .int .i64 t183] rfl (by (try simp only [List.map_toArray, List.map_cons, List.map_nil]); first | done | rfl | (simp only [List.length_drop, List.length_take]; rfl)) ?_; (with_reducible refine (impl_JacobiOf.calls kj12 t184 t183 t188 _ A17.out).mono ?_); rintro e w27 ⟨rfl, hb⟩; refine ⟨_, rfl, ?_⟩; have n0_ := Aside0.mk (below_step (by repeat (first | (with_reducible first | exact HB.out | apply below_alloc | apply pw_below_drewN | apply below_drew1) | exact HB.out)) hb); clear HB; have HB := n0_; clear n0_; (try clear hb); (try clear hb2); (try clear hk); (try clear hi)))
                    go_ret
                    exact ⟨by first | rfl | (simp [errW_none, errW_some] <;> rfl) | (simp [*, errW_none, errW_some] <;> rfl), by repeat (first | (with_reducible first | exact HB.out | apply below_alloc | apply pw_below_drewN | apply below_drew1) | exact HB.out)⟩
                  · rw [if_neg c26] at H
                    have c26b0 : ((t185 == 0) == (decide (t187 > 1))) = false := by simpa using c26
                    (try (have c26b1 : decide ((t185 == 0) = (decide (t187 > 1))) = false := by simpa using c26))
                    (try (have c26b2 : ((t185 == 0) == (decide (t187 > 1))) = false := by simpa using c26))
                    (try (have c26b3 : ¬ ((t185 == 0) = (decide (t187 > 1))) := by simpa using c26))
                    clear c26
                    obtain rfl := Option.some.inj H
                    go_wp2_with (first | ((with_reducible refine gate_callee (f := 27) rfl ?_); refine goesL_ (some 51) rfl rfl Try.func27 (by kernel_rfl) rfl #[.int .i64 t184, .int .i64 t183] rfl (by (try simp only [List.map_toArray, List.map_cons, List.map_nil]); first | done | rfl | (simp only [List.length_drop, List.length_take]; rfl)) ?_; (with_reducible refine (impl_JacobiOf.calls kj12 t184 t183 t188 _ A17.out).mono ?_); rintro e w28 ⟨rfl, hb⟩; refine ⟨_, rfl, ?_⟩; have n0_ := Aside0.mk (below_step (by repeat (first | (with_reducible first | exact HB.out | apply below_alloc | apply pw_below_drewN | apply below_drew1) | exact HB.out)) hb); clear HB; have HB := n0_; clear n0_; (try clear hb); (try clear hb2); (try clear hk); (try clear hi)))
                    go_ret
                    exact ⟨by first | rfl | (simp [errW_none, errW_some] <;> rfl) | (simp [*, errW_none, errW_some] <;> rfl), by repeat (first | (with_reducible first | exact HB.out | apply below_alloc | apply pw_below_drewN | apply below_drew1) | exact HB.out)⟩

/-- THE ONE PURE STATEMENT of laws_FnReciprocity: yours. -/
def laws_FnReciprocity.Pure : Prop := ∀ (l0 : List Int), l0.length ≤ maxLen → l0.length * 1 ≤ 140737488351232 → (∀ x ∈ l0, (Lit.int .u8 x).wf = true) → ∃ k, laws_FnReciprocity.f k l0 = some true
theorem laws_FnReciprocity.walk (P : laws_FnReciprocity.Pure) (a0 : Option Addr) (len0 cap0 : Nat) (z0 : List Int) (w : World) (w0 : (a0 = none ∧ len0 = 0 ∧ cap0 = 0 ∧ z0 = []) ∨ ∃ x, a0 = some x ∧ len0 ≤ cap0 ∧ cap0 ≤ maxLen ∧ z0.length = cap0 ∧ (∀ i, i < z0.length → w.cell? (x.add i) = some (.int .u8 (z0.getD i 0))) ∧ ∀ n ∈ z0, (Lit.int .u8 n).wf = true) (y0 : len0 * 1 ≤ 140737488351232) :
    Calls Try.prog 7 #[.slice a0 len0 cap0] w fun e w' => e = .returned (.bool true) ∧ Below w.heap.size w w' := by
  obtain ⟨l0, rfl, hr0, hm0, hw0, hc0⟩ := ReadsInt.ofRowC w0
  obtain ⟨k, h⟩ := P l0 hm0 y0 hw0
  refine (laws_FnReciprocity.calls k _ _ l0 true w (Kd.C_of_reads (d := (0 : Int)) (h1 := fun _ => rfl) hr0) hc0 h).mono ?_
  rintro e w' ⟨rfl, hd⟩
  exact ⟨rfl, hd⟩

end Go.Proofs.Ytpcocojkhcokmaa.PFnReciprocity
