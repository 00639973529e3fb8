-- PRINTED BY print.sh 35421559b90ae4d0a3588c463048766b98c2df88dd9212a6774a882060cdf62d: not written by this session
import Derived.Test.YtnbjnlbaoogbmaaPFnResiduex0
import Derived.Test.YtnbjnlbaoogbmaaPFnResiduex1
import Derived.Test.YtnbjnlbaoogbmaaPFnResiduex2
namespace Go.Proofs.Ytnbjnlbaoogbmaa.PFnResidue
open Go.RowKit Go.Proofs.YtnbjnlbaoogbmaaW.PrintWords Go.Proofs.YtnbjnlbaoogbmaaW.PrintLast Go.Proofs.YtnbjnlbaoogbmaaW.PrintMore
attribute [local go_sem] max2_int min2_int max_two min_two max_three min_three max_four min_four   -- for this text's walks alone
set_option linter.unusedVariables false
set_option linter.unusedSimpArgs false

/-! ### laws_FnResidue: function 13 -/
mutual
def laws_FnResidue.j0 : Nat → List Int → List Int → Bool → Option (Bool)
  | 0, _, _, _ => none
  | k + 1, x0, x1, x21 => if x21 = true then (some true) else ((spec_DrawResidueIs.f k x0).bind fun bt158 => ((impl_ResidueIs.f k bt158.1 bt158.2).bind fun t160 => ((spec_ResidueIs.f k bt158.1 bt158.2).bind fun t161 => (if t160 = t161 then (laws_FnResidue.j1 k x1 bt158.1 bt158.2 t160 t161 (t160 == (-2))) else (laws_FnResidue.j1 k x1 bt158.1 bt158.2 t160 t161 true)))))
def laws_FnResidue.j1 : Nat → List Int → Int → Int → Int → Int → Bool → Option (Bool)
  | 0, _, _, _, _, _, _ => none
  | k + 1, x1, x5, x6, x7, x8, x39 => if x39 = true then (some (x7 == x8)) else ((impl_RootMod.f k x5 x6).bind fun bt162 => ((impl_ResidueIs.f k (1 + ((x1.length : Int) % 9)) x6).bind fun t164 => ((impl_ResidueIs.f k (wrap64 (x5 * (1 + ((x1.length : Int) % 9)))) x6).bind fun t165 => (if (bt162.2 == (x7 != (-1))) = true then (if t165 = (-2) then (if x6 = 0 then (none) else (some ((x7 == 0) == ((Int.tmod x5 x6) == 0)))) else (if t165 = (wrap64 (x7 * t164)) then (if x6 = 0 then (none) else (some ((x7 == 0) == ((Int.tmod x5 x6) == 0)))) else (some false))) else (some false)))))
end
def laws_FnResidue.f (k : Nat) (l0 : List Int) (l1 : List Int) : Option (Bool) := if (l0.length : Int) > 1048576 then (laws_FnResidue.j0 k l0 l1 true) else (laws_FnResidue.j0 k l0 l1 (decide ((l1.length : Int) > 1048576)))
theorem laws_FnResidue.mono_l : ∀ k, (∀ y0 y1 y2, LeO (laws_FnResidue.j0 k y0 y1 y2) (laws_FnResidue.j0 (k + 1) y0 y1 y2)) ∧ (∀ y0 y1 y2 y3 y4 y5, LeO (laws_FnResidue.j1 k y0 y1 y2 y3 y4 y5) (laws_FnResidue.j1 (k + 1) y0 y1 y2 y3 y4 y5))
  | 0 => ⟨fun _ _ _ r h => by simp [laws_FnResidue.j0] at h, fun _ _ _ _ _ _ r h => by simp [laws_FnResidue.j1] at h⟩
  | k + 1 => by
    obtain ⟨ih0, ih1⟩ := laws_FnResidue.mono_l k
    refine ⟨?_, ?_⟩
    · intro y0 y1 y2
      unfold laws_FnResidue.j0
      repeat' first
      | (with_reducible exact ih0 _ _ _)
      | (with_reducible exact ih1 _ _ _ _ _ _)
      | (with_reducible exact impl_ResidueIs.mono _ _ _)
      | (with_reducible exact impl_RootMod.mono _ _ _)
      | (with_reducible exact spec_DrawResidueIs.mono _ _)
      | (with_reducible exact spec_ResidueIs.mono _ _ _)
      | (with_reducible exact LeO.refl _)
      | (with_reducible exact LeO.none _)
      | (with_reducible refine LeO.ite ?_ ?_)
      | (with_reducible refine LeO.bind ?_ (fun _ => ?_))
      | exact ih0 _ _ _
      | exact ih1 _ _ _ _ _ _
      | exact impl_ResidueIs.mono _ _ _
      | exact impl_RootMod.mono _ _ _
      | exact spec_DrawResidueIs.mono _ _
      | exact spec_ResidueIs.mono _ _ _
      | exact LeO.none _
      | refine LeO.ite ?_ ?_
      | refine LeO.bind ?_ (fun _ => ?_)
    · intro y0 y1 y2 y3 y4 y5
      unfold laws_FnResidue.j1
      repeat' first
      | (with_reducible exact ih0 _ _ _)
      | (with_reducible exact ih1 _ _ _ _ _ _)
      | (with_reducible exact impl_ResidueIs.mono _ _ _)
      | (with_reducible exact impl_RootMod.mono _ _ _)
      | (with_reducible exact spec_DrawResidueIs.mono _ _)
      | (with_reducible exact spec_ResidueIs.mono _ _ _)
      | (with_reducible exact LeO.refl _)
      | (with_reducible exact LeO.none _)
      | (with_reducible refine LeO.ite ?_ ?_)
      | (with_reducible refine LeO.bind ?_ (fun _ => ?_))
      | exact ih0 _ _ _
      | exact ih1 _ _ _ _ _ _
      | exact impl_ResidueIs.mono _ _ _
      | exact impl_RootMod.mono _ _ _
      | exact spec_DrawResidueIs.mono _ _
      | exact spec_ResidueIs.mono _ _ _
      | exact LeO.none _
      | refine LeO.ite ?_ ?_
      | refine LeO.bind ?_ (fun _ => ?_)
theorem laws_FnResidue.mono : ∀ a0 a1 k, LeO (laws_FnResidue.f k a0 a1) (laws_FnResidue.f (k + 1) a0 a1) := by
  intro a0 a1 k
  obtain ⟨ih0, ih1⟩ := laws_FnResidue.mono_l k
  unfold laws_FnResidue.f
  repeat' first
      | (with_reducible exact ih0 _ _ _)
      | (with_reducible exact ih1 _ _ _ _ _ _)
      | (with_reducible exact impl_ResidueIs.mono _ _ _)
      | (with_reducible exact impl_RootMod.mono _ _ _)
      | (with_reducible exact spec_DrawResidueIs.mono _ _)
      | (with_reducible exact spec_ResidueIs.mono _ _ _)
      | (with_reducible exact LeO.refl _)
      | (with_reducible exact LeO.none _)
      | (with_reducible refine LeO.ite ?_ ?_)
      | (with_reducible refine LeO.bind ?_ (fun _ => ?_))
      | exact ih0 _ _ _
      | exact ih1 _ _ _ _ _ _
      | exact impl_ResidueIs.mono _ _ _
      | exact impl_RootMod.mono _ _ _
      | exact spec_DrawResidueIs.mono _ _
      | exact spec_ResidueIs.mono _ _ _
      | exact LeO.none _
      | refine LeO.ite ?_ ?_
      | refine LeO.bind ?_ (fun _ => ?_)
set_option maxHeartbeats 8000000 in
set_option maxRecDepth 100000 in
theorem laws_FnResidue.calls (k : Nat) (A0 : Option Addr) (c0 : Nat) (l0 : List Int) (A1 : Option Addr) (c1 : Nat) (l1 : List Int) (r : Bool) (w : World) (hr0 : Kd.C (Kd.int .u8) w A0 l0.length l0) (hc0 : l0.length ≤ c0) (hr1 : Kd.C (Kd.int .u8) w A1 l1.length l1) (hc1 : l1.length ≤ c1) (h : laws_FnResidue.f k l0 l1 = some r) :
    Calls Try.prog 13 #[.slice A0 l0.length c0, .slice A1 l1.length c1] w fun e w' => e = .returned (.bool r) ∧ Below w.heap.size w w' := by
  have HR0 := Aside0.mk hr0
  have HC0 := Aside0.mk hc0
  clear hr0 hc0
  have HR1 := Aside0.mk hr1
  have HC1 := Aside0.mk hc1
  clear hr1 hc1
  have HB := Aside0.mk (Below.refl w.heap.size w)
  have H : (if (l0.length : Int) > 1048576 then (laws_FnResidue.j0 k l0 l1 true) else (laws_FnResidue.j0 k l0 l1 (decide ((l1.length : Int) > 1048576)))) = some r := h
  clear h
  have HC3 := Aside0.mk H
  clear H
  go_enter Try.func13, Try.ntmps13
  go_upto_region 1 with (fail)
  go_cut [21] (fun v21 wc => ∃ (kq : Nat) (x21_2 : Bool), v21 = .bool x21_2 ∧ Aside0 (laws_FnResidue.j0 kq l0 l1 x21_2 = some r) ∧ Aside0 (kq ≤ k) ∧ Aside0 (Below w.heap.size w wc))
  case first =>
    have H := HC3.out
    clear HC3
    by_cases c4 : (l0.length : Int) > 1048576
    · rw [if_pos c4] at H
      have c4b0 : decide (1048576 < (l0.length : Int)) = true := decide_eq_true c4
      have c4b1 : decide (1048576 < l0.length) = true := decide_eq_true (by omega)
      clear c4
      (first | rw [c4b0] | (simp only [i64_w, i32_w]; rw [c4b0]) | skip)
      have H' := Aside0.mk H
      clear H
      go_wp2
      go_meet
      case rel => exact ⟨_, (true), (by first | rfl | (simp; done) | (simp [*]; done)), H', ⟨by first | omega | exact Nat.le_refl _⟩, ⟨by repeat (first | (with_reducible first | exact HB.out | apply below_alloc | apply pw_below_drewN | apply below_drew1) | exact HB.out)⟩⟩
    · rw [if_neg c4] at H
      have c4b0 : decide (1048576 < (l0.length : Int)) = false := decide_eq_false c4
      have c4b1 : decide (1048576 < l0.length) = false := decide_eq_false (by omega)
      clear c4
      (first | rw [c4b0] | (simp only [i64_w, i32_w]; rw [c4b0]) | skip)
      have H' := Aside0.mk H
      clear H
      go_wp2
      go_meet
      case rel => exact ⟨_, (decide ((l1.length : Int) > 1048576)), (by first | rfl | (simp; done) | (simp [*]; done)), H', ⟨by first | omega | exact Nat.le_refl _⟩, ⟨by repeat (first | (with_reducible first | exact HB.out | apply below_alloc | apply pw_below_drewN | apply below_drew1) | exact HB.out)⟩⟩
  case rest =>
    clear HC3
    try clear c1
    try clear p2
    try clear c4
    try clear c4b0
    try clear c4b1
    obtain ⟨kq, x21_2, rfl, HA, HJ2, HB⟩ := hcut
    cases kq with
    | zero => exact absurd HA.out (by simp [laws_FnResidue.j0])
    | succ kj2 =>
      have H := HA.out
      clear HA
      simp only [laws_FnResidue.j0] at H
      by_cases c5 : x21_2 = true
      · subst c5
        have H1 : (some true) = some r := by rw [if_pos rfl] at H; exact H
        clear H
        have H := H1
        clear H1
        obtain rfl := Option.some.inj H
        go_wp2
        go_ret
        exact ⟨by first | rfl | (simp [errW_none, errW_some] <;> rfl) | (simp [*, errW_none, errW_some] <;> rfl), by repeat (first | (with_reducible first | exact HB.out | apply below_alloc | apply pw_below_drewN | apply below_drew1) | exact HB.out)⟩
      · replace c5 := Bool.eq_false_iff.mpr c5
        subst c5
        have H1 : ((spec_DrawResidueIs.f kj2 l0).bind fun bt158 => ((impl_ResidueIs.f kj2 bt158.1 bt158.2).bind fun t160 => ((spec_ResidueIs.f kj2 bt158.1 bt158.2).bind fun t161 => (if t160 = t161 then (laws_FnResidue.j1 kj2 l1 bt158.1 bt158.2 t160 t161 (t160 == (-2))) else (laws_FnResidue.j1 kj2 l1 bt158.1 bt158.2 t160 t161 true))))) = some r := by rw [if_neg (show ¬ (false = true) by decide)] at H; exact H
        clear H
        have H := H1
        clear H1
        replace H := Option.bind_eq_some_iff.mp H
        obtain ⟨⟨t158, t159⟩, A60, H⟩ := H
        replace H : ((impl_ResidueIs.f kj2 t158 t159).bind fun t160 => ((spec_ResidueIs.f kj2 t158 t159).bind fun t161 => (if t160 = t161 then (laws_FnResidue.j1 kj2 l1 t158 t159 t160 t161 (t160 == (-2))) else (laws_FnResidue.j1 kj2 l1 t158 t159 t160 t161 true)))) = some r := H
        have A6 := Aside0.mk A60
        clear A60
        replace H := Option.bind_eq_some_iff.mp H
        obtain ⟨t160, A70, H⟩ := H
        replace H : ((spec_ResidueIs.f kj2 t158 t159).bind fun t161 => (if t160 = t161 then (laws_FnResidue.j1 kj2 l1 t158 t159 t160 t161 (t160 == (-2))) else (laws_FnResidue.j1 kj2 l1 t158 t159 t160 t161 true))) = some r := H
        have A7 := Aside0.mk A70
        clear A70
        replace H := Option.bind_eq_some_iff.mp H
        obtain ⟨t161, A80, H⟩ := H
        replace H : (if t160 = t161 then (laws_FnResidue.j1 kj2 l1 t158 t159 t160 t161 (t160 == (-2))) else (laws_FnResidue.j1 kj2 l1 t158 t159 t160 t161 true)) = some r := H
        have A8 := Aside0.mk A80
        clear A80
        have HC9 := Aside0.mk H
        clear H
        go_upto_region 6 with (first | ((with_reducible refine gate_callee (f := 48) rfl ?_); refine goesL_ (some 24) rfl rfl Try.func48 (by kernel_rfl) rfl #[.slice A0 l0.length c0] rfl (by (try simp only [List.map_toArray, List.map_cons, List.map_nil]); first | done | rfl | (simp only [List.length_drop, List.length_take]; rfl)) ?_; (with_reducible refine (spec_DrawResidueIs.calls kj2 _ _ l0 t158 t159 _ ?side1 ?side2 A6.out).mono ?_); (case side1 => repeat (first | exact (Kd.C_below HR0.out HB.out) | (with_reducible refine Kd.C_alloc ?_ _) | (with_reducible refine Kd.C_drewN ?_ _) | (with_reducible refine Kd.C_drew ?_))); (case side2 => exact HC0.out); rintro e w10 ⟨rfl, hb⟩; refine ⟨_, rfl, ?_⟩; have n0_ := Aside0.mk (below_step (by repeat (first | (with_reducible first | exact HB.out | apply below_alloc | apply pw_below_drewN | apply below_drew1) | exact HB.out)) hb); clear HB; have HB := n0_; clear n0_; (try clear hb); (try clear hb2); (try clear hk); (try clear hi)) | ((with_reducible refine gate_callee (f := 24) rfl ?_); refine goesL_ (some 29) rfl rfl Try.func24 (by kernel_rfl) rfl #[.int .i64 t158, .int .i64 t159] rfl (by (try simp only [List.map_toArray, List.map_cons, List.map_nil]); first | done | rfl | (simp only [List.length_drop, List.length_take]; rfl)) ?_; (with_reducible refine (impl_ResidueIs.calls kj2 t158 t159 t160 _ A7.out).mono ?_); rintro e w' ⟨rfl, ⟨nd, rfl⟩⟩; refine ⟨_, rfl, ?_⟩) | ((with_reducible refine gate_callee (f := 49) rfl ?_); refine goesL_ (some 32) rfl rfl Try.func49 (by kernel_rfl) rfl #[.int .i64 t158, .int .i64 t159] rfl (by (try simp only [List.map_toArray, List.map_cons, List.map_nil]); first | done | rfl | (simp only [List.length_drop, List.length_take]; rfl)) ?_; (with_reducible refine (spec_ResidueIs.calls kj2 t158 t159 t161 _ A8.out).mono ?_); rintro e w' ⟨rfl, ⟨nd, rfl⟩⟩; refine ⟨_, rfl, ?_⟩))
        (try simp only [Act.put, List.setIfInBounds_toArray, List.set_cons_zero, List.set_cons_succ])
        go_cut [39] (fun v39 wc => ∃ (kq : Nat) (x39_8 : Bool), v39 = .bool x39_8 ∧ Aside0 (laws_FnResidue.j1 kq l1 t158 t159 t160 t161 x39_8 = some r) ∧ Aside0 (kq ≤ kj2) ∧ Aside0 (Below w.heap.size w wc))
        case first =>
          have H := HC9.out
          clear HC9
          by_cases c11 : t160 = t161
          · rw [if_pos c11] at H
            have c11b0 : (t160 == t161) = true := beq_iff_eq.mpr c11
            have c11b1 : (t160 != t161) = false := bne_eq_false_iff_eq.mpr c11
            clear c11
            (first | rw [c11b0] | (simp only [i64_w, i32_w]; rw [c11b0]) | skip)
            have H' := Aside0.mk H
            clear H
            go_wp2
            go_meet
            case rel => exact ⟨_, ((t160 == (-2))), (by first | rfl | (simp; done) | (simp [*]; done)), H', ⟨by have := HJ2.out; first | omega | exact Nat.le_refl _⟩, ⟨by repeat (first | (with_reducible first | exact HB.out | apply below_alloc | apply pw_below_drewN | apply below_drew1) | exact HB.out)⟩⟩
          · rw [if_neg c11] at H
            have c11b0 : (t160 == t161) = false := beq_eq_false_iff_ne.mpr c11
            have c11b1 : (t160 != t161) = true := bne_iff_ne.mpr c11
            (first | rw [c11b0] | (simp only [i64_w, i32_w]; rw [c11b0]) | skip)
            have H' := Aside0.mk H
            clear H
            go_wp2
            go_meet
            case rel => exact ⟨_, (true), (by first | rfl | (simp; done) | (simp [*]; done)), H', ⟨by have := HJ2.out; first | omega | exact Nat.le_refl _⟩, ⟨by repeat (first | (with_reducible first | exact HB.out | apply below_alloc | apply pw_below_drewN | apply below_drew1) | exact HB.out)⟩⟩
        case rest =>
          clear HC9
          try clear c1
          try clear c2
          try clear p2
          try clear c4
          try clear c4b0
          try clear c4b1
          try clear c5
          try clear c11
          try clear c11b0
          try clear c11b1
          try clear p2
          obtain ⟨kq, x39_8, rfl, HA, HJ8, HB⟩ := hcut
          cases kq with
          | zero => exact absurd HA.out (by simp [laws_FnResidue.j1])
          | succ kj8 =>
            have H := HA.out
            clear HA
            simp only [laws_FnResidue.j1] at H
            by_cases c12 : x39_8 = true
            · subst c12
              have H1 : (some (t160 == t161)) = some r := by rw [if_pos rfl] at H; exact H
              clear H
              have H := H1
              clear H1
              obtain rfl := Option.some.inj H
              go_wp2
              go_ret
              exact ⟨by first | rfl | (simp [errW_none, errW_some] <;> rfl) | (simp [*, errW_none, errW_some] <;> rfl), by repeat (first | (with_reducible first | exact HB.out | apply below_alloc | apply pw_below_drewN | apply below_drew1) | exact HB.out)⟩
            · replace c12 := Bool.eq_false_iff.mpr c12
              subst c12
              have H1 : ((impl_RootMod.f kj8 t158 t159).bind fun bt162 => ((impl_ResidueIs.f kj8 (1 + ((l1.length : Int) % 9)) t159).bind fun t164 => ((impl_ResidueIs.f kj8 (wrap64 (t158 * (1 + ((l1.length : Int) % 9)))) t159).bind fun t165 => (if (bt162.2 == (t160 != (-1))) = true then (if t165 = (-2) then (if t159 = 0 then (none) else (some ((t160 == 0) == ((Int.tmod t158 t159) == 0)))) else (if t165 = (wrap64 (t160 * t164)) then (if t159 = 0 then (none) else (some ((t160 == 0) == ((Int.tmod t158 t159) == 0)))) else (some false))) else (some false))))) = some r := by rw [if_neg (show ¬ (false = true) by decide)] at H; exact H
              clear H
              have H := H1
              clear H1
              replace H := Option.bind_eq_some_iff.mp H
              obtain ⟨⟨t162, t163⟩, A130, H⟩ := H
              replace H : ((impl_ResidueIs.f kj8 (1 + ((l1.length : Int) % 9)) t159).bind fun t164 => ((impl_ResidueIs.f kj8 (wrap64 (t158 * (1 + ((l1.length : Int) % 9)))) t159).bind fun t165 => (if (t163 == (t160 != (-1))) = true then (if t165 = (-2) then (if t159 = 0 then (none) else (some ((t160 == 0) == ((Int.tmod t158 t159) == 0)))) else (if t165 = (wrap64 (t160 * t164)) then (if t159 = 0 then (none) else (some ((t160 == 0) == ((Int.tmod t158 t159) == 0)))) else (some false))) else (some false)))) = some r := H
              have A13 := Aside0.mk A130
              clear A130
              replace H := Option.bind_eq_some_iff.mp H
              obtain ⟨t164, A140, H⟩ := H
              replace H : ((impl_ResidueIs.f kj8 (wrap64 (t158 * (1 + ((l1.length : Int) % 9)))) t159).bind fun t165 => (if (t163 == (t160 != (-1))) = true then (if t165 = (-2) then (if t159 = 0 then (none) else (some ((t160 == 0) == ((Int.tmod t158 t159) == 0)))) else (if t165 = (wrap64 (t160 * t164)) then (if t159 = 0 then (none) else (some ((t160 == 0) == ((Int.tmod t158 t159) == 0)))) else (some false))) else (some false))) = some r := H
              have A14 := Aside0.mk A140
              clear A140
              replace H := Option.bind_eq_some_iff.mp H
              obtain ⟨t165, A150, H⟩ := H
              replace H : (if (t163 == (t160 != (-1))) = true then (if t165 = (-2) then (if t159 = 0 then (none) else (some ((t160 == 0) == ((Int.tmod t158 t159) == 0)))) else (if t165 = (wrap64 (t160 * t164)) then (if t159 = 0 then (none) else (some ((t160 == 0) == ((Int.tmod t158 t159) == 0)))) else (some false))) else (some false)) = some r := H
              have A15 := Aside0.mk A150
              clear A150
              by_cases c16 : (t163 == (t160 != (-1))) = true
              · rw [if_pos c16] at H
                have c16b0 : (t163 == (t160 != (-1))) = true := c16
                (try (have c16b1 : decide (t163 = (t160 != (-1))) = true := by simpa using c16))
                (try (have c16b2 : (t163 == (t160 != (-1))) = true := by simpa using c16))
                clear c16
                by_cases c17 : t165 = (-2)
                · rw [if_pos c17] at H
                  have c17b0 : (t165 == (-2)) = true := beq_iff_eq.mpr c17
                  have c17b1 : (t165 != (-2)) = false := bne_eq_false_iff_eq.mpr c17
                  clear c17
                  by_cases c18 : t159 = 0
                  · rw [if_pos c18] at H
                    exact absurd H (by simp)
                  · rw [if_neg c18] at H
                    have c18b0 : (t159 == 0) = false := beq_eq_false_iff_ne.mpr c18
                    have c18b1 : (t159 != 0) = true := bne_iff_ne.mpr c18
                    obtain rfl := Option.some.inj H
                    go_wp2_with (first | ((with_reducible refine gate_callee (f := 50) rfl ?_); refine goesL_ (some 46) rfl rfl Try.func50 (by kernel_rfl) rfl #[.int .i64 t158, .int .i64 t159] rfl (by (try simp only [List.map_toArray, List.map_cons, List.map_nil]); first | done | rfl | (simp only [List.length_drop, List.length_take]; rfl)) ?_; (with_reducible refine (impl_RootMod.calls kj8 t158 t159 t162 t163 _ A13.out).mono ?_); rintro e w' ⟨rfl, ⟨nd, rfl⟩⟩; refine ⟨_, rfl, ?_⟩) | ((with_reducible refine gate_callee (f := 24) rfl ?_); refine goesL_ (some 55) rfl rfl Try.func24 (by kernel_rfl) rfl #[.int .i64 (1 + ((l1.length : Int) % 9)), .int .i64 t159] rfl (by (try simp only [List.map_toArray, List.map_cons, List.map_nil]); first | done | rfl | (simp only [List.length_drop, List.length_take]; rfl)) ?_; (with_reducible refine (impl_ResidueIs.calls kj8 (1 + ((l1.length : Int) % 9)) t159 t164 _ A14.out).mono ?_); rintro e w' ⟨rfl, ⟨nd, rfl⟩⟩; refine ⟨_, rfl, ?_⟩) | ((with_reducible refine gate_callee (f := 24) rfl ?_); refine goesL_ (some 60) rfl rfl Try.func24 (by kernel_rfl) rfl #[.int .i64 (wrap64 (t158 * (1 + ((l1.length : Int) % 9)))), .int .i64 t159] rfl (by (try simp only [List.map_toArray, List.map_cons, List.map_nil]); first | done | rfl | (simp only [List.length_drop, List.length_take]; rfl)) ?_; (with_reducible refine (impl_ResidueIs.calls kj8 (wrap64 (t158 * (1 + ((l1.length : Int) % 9)))) t159 t165 _ A15.out).mono ?_); rintro e w' ⟨rfl, ⟨nd, rfl⟩⟩; refine ⟨_, rfl, ?_⟩))
                    go_ret
                    exact ⟨by first | rfl | (simp [errW_none, errW_some] <;> rfl) | (simp [*, errW_none, errW_some] <;> rfl), by repeat (first | (with_reducible first | exact HB.out | apply below_alloc | apply pw_below_drewN | apply below_drew1) | exact HB.out)⟩
                · rw [if_neg c17] at H
                  have c17b0 : (t165 == (-2)) = false := beq_eq_false_iff_ne.mpr c17
                  have c17b1 : (t165 != (-2)) = true := bne_iff_ne.mpr c17
                  by_cases c19 : t165 = (wrap64 (t160 * t164))
                  · rw [if_pos c19] at H
                    have c19b0 : (t165 == (wrap64 (t160 * t164))) = true := beq_iff_eq.mpr c19
                    have c19b1 : (t165 != (wrap64 (t160 * t164))) = false := bne_eq_false_iff_eq.mpr c19
                    clear c19
                    by_cases c20 : t159 = 0
                    · rw [if_pos c20] at H
                      exact absurd H (by simp)
                    · rw [if_neg c20] at H
                      have c20b0 : (t159 == 0) = false := beq_eq_false_iff_ne.mpr c20
                      have c20b1 : (t159 != 0) = true := bne_iff_ne.mpr c20
                      obtain rfl := Option.some.inj H
                      go_wp2_with (first | ((with_reducible refine gate_callee (f := 50) rfl ?_); refine goesL_ (some 46) rfl rfl Try.func50 (by kernel_rfl) rfl #[.int .i64 t158, .int .i64 t159] rfl (by (try simp only [List.map_toArray, List.map_cons, List.map_nil]); first | done | rfl | (simp only [List.length_drop, List.length_take]; rfl)) ?_; (with_reducible refine (impl_RootMod.calls kj8 t158 t159 t162 t163 _ A13.out).mono ?_); rintro e w' ⟨rfl, ⟨nd, rfl⟩⟩; refine ⟨_, rfl, ?_⟩) | ((with_reducible refine gate_callee (f := 24) rfl ?_); refine goesL_ (some 55) rfl rfl Try.func24 (by kernel_rfl) rfl #[.int .i64 (1 + ((l1.length : Int) % 9)), .int .i64 t159] rfl (by (try simp only [List.map_toArray, List.map_cons, List.map_nil]); first | done | rfl | (simp only [List.length_drop, List.length_take]; rfl)) ?_; (with_reducible refine (impl_ResidueIs.calls kj8 (1 + ((l1.length : Int) % 9)) t159 t164 _ A14.out).mono ?_); rintro e w' ⟨rfl, ⟨nd, rfl⟩⟩; refine ⟨_, rfl, ?_⟩) | ((with_reducible refine gate_callee (f := 24) rfl ?_); refine goesL_ (some 60) rfl rfl Try.func24 (by kernel_rfl) rfl #[.int .i64 (wrap64 (t158 * (1 + ((l1.length : Int) % 9)))), .int .i64 t159] rfl (by (try simp only [List.map_toArray, List.map_cons, List.map_nil]); first | done | rfl | (simp only [List.length_drop, List.length_take]; rfl)) ?_; (with_reducible refine (impl_ResidueIs.calls kj8 (wrap64 (t158 * (1 + ((l1.length : Int) % 9)))) t159 t165 _ A15.out).mono ?_); rintro e w' ⟨rfl, ⟨nd, rfl⟩⟩; refine ⟨_, rfl, ?_⟩))
                      go_ret
                      exact ⟨by first | rfl | (simp [errW_none, errW_some] <;> rfl) | (simp [*, errW_none, errW_some] <;> rfl), by repeat (first | (with_reducible first | exact HB.out | apply below_alloc | apply pw_below_drewN | apply below_drew1) | exact HB.out)⟩
                  · rw [if_neg c19] at H
                    have c19b0 : (t165 == (wrap64 (t160 * t164))) = false := beq_eq_false_iff_ne.mpr c19
                    have c19b1 : (t165 != (wrap64 (t160 * t164))) = true := bne_iff_ne.mpr c19
                    obtain rfl := Option.some.inj H
                    go_wp2_with (first | ((with_reducible refine gate_callee (f := 50) rfl ?_); refine goesL_ (some 46) rfl rfl Try.func50 (by kernel_rfl) rfl #[.int .i64 t158, .int .i64 t159] rfl (by (try simp only [List.map_toArray, List.map_cons, List.map_nil]); first | done | rfl | (simp only [List.length_drop, List.length_take]; rfl)) ?_; (with_reducible refine (impl_RootMod.calls kj8 t158 t159 t162 t163 _ A13.out).mono ?_); rintro e w' ⟨rfl, ⟨nd, rfl⟩⟩; refine ⟨_, rfl, ?_⟩) | ((with_reducible refine gate_callee (f := 24) rfl ?_); refine goesL_ (some 55) rfl rfl Try.func24 (by kernel_rfl) rfl #[.int .i64 (1 + ((l1.length : Int) % 9)), .int .i64 t159] rfl (by (try simp only [List.map_toArray, List.map_cons, List.map_nil]); first | done | rfl | (simp only [List.length_drop, List.length_take]; rfl)) ?_; (with_reducible refine (impl_ResidueIs.calls kj8 (1 + ((l1.length : Int) % 9)) t159 t164 _ A14.out).mono ?_); rintro e w' ⟨rfl, ⟨nd, rfl⟩⟩; refine ⟨_, rfl, ?_⟩) | ((with_reducible refine gate_callee (f := 24) rfl ?_); refine goesL_ (some 60) rfl rfl Try.func24 (by kernel_rfl) rfl #[.int .i64 (wrap64 (t158 * (1 + ((l1.length : Int) % 9)))), .int .i64 t159] rfl (by (try simp only [List.map_toArray, List.map_cons, List.map_nil]); first | done | rfl | (simp only [List.length_drop, List.length_take]; rfl)) ?_; (with_reducible refine (impl_ResidueIs.calls kj8 (wrap64 (t158 * (1 + ((l1.length : Int) % 9)))) t159 t165 _ A15.out).mono ?_); rintro e w' ⟨rfl, ⟨nd, rfl⟩⟩; refine ⟨_, rfl, ?_⟩))
                    go_ret
                    exact ⟨by first | rfl | (simp [errW_none, errW_some] <;> rfl) | (simp [*, errW_none, errW_some] <;> rfl), by repeat (first | (with_reducible first | exact HB.out | apply below_alloc | apply pw_below_drewN | apply below_drew1) | exact HB.out)⟩
              · rw [if_neg c16] at H
                have c16b0 : (t163 == (t160 != (-1))) = false := by simpa using c16
                (try (have c16b1 : decide (t163 = (t160 != (-1))) = false := by simpa using c16))
                (try (have c16b2 : (t163 == (t160 != (-1))) = false := by simpa using c16))
                (try (have c16b3 : ¬ (t163 = (t160 != (-1))) := by simpa using c16))
                clear c16
                obtain rfl := Option.some.inj H
                go_wp2_with (first | ((with_reducible refine gate_callee (f := 50) rfl ?_); refine goesL_ (some 46) rfl rfl Try.func50 (by kernel_rfl) rfl #[.int .i64 t158, .int .i64 t159] rfl (by (try simp only [List.map_toArray, List.map_cons, List.map_nil]); first | done | rfl | (simp only [List.length_drop, List.length_take]; rfl)) ?_; (with_reducible refine (impl_RootMod.calls kj8 t158 t159 t162 t163 _ A13.out).mono ?_); rintro e w' ⟨rfl, ⟨nd, rfl⟩⟩; refine ⟨_, rfl, ?_⟩) | ((with_reducible refine gate_callee (f := 24) rfl ?_); refine goesL_ (some 55) rfl rfl Try.func24 (by kernel_rfl) rfl #[.int .i64 (1 + ((l1.length : Int) % 9)), .int .i64 t159] rfl (by (try simp only [List.map_toArray, List.map_cons, List.map_nil]); first | done | rfl | (simp only [List.length_drop, List.length_take]; rfl)) ?_; (with_reducible refine (impl_ResidueIs.calls kj8 (1 + ((l1.length : Int) % 9)) t159 t164 _ A14.out).mono ?_); rintro e w' ⟨rfl, ⟨nd, rfl⟩⟩; refine ⟨_, rfl, ?_⟩) | ((with_reducible refine gate_callee (f := 24) rfl ?_); refine goesL_ (some 60) rfl rfl Try.func24 (by kernel_rfl) rfl #[.int .i64 (wrap64 (t158 * (1 + ((l1.length : Int) % 9)))), .int .i64 t159] rfl (by (try simp only [List.map_toArray, List.map_cons, List.map_nil]); first | done | rfl | (simp only [List.length_drop, List.length_take]; rfl)) ?_; (with_reducible refine (impl_ResidueIs.calls kj8 (wrap64 (t158 * (1 + ((l1.length : Int) % 9)))) t159 t165 _ A15.out).mono ?_); rintro e w' ⟨rfl, ⟨nd, rfl⟩⟩; refine ⟨_, rfl, ?_⟩))
                go_ret
                exact ⟨by first | rfl | (simp [errW_none, errW_some] <;> rfl) | (simp [*, errW_none, errW_some] <;> rfl), by repeat (first | (with_reducible first | exact HB.out | apply below_alloc | apply pw_below_drewN | apply below_drew1) | exact HB.out)⟩

/-- THE ONE PURE STATEMENT of laws_FnResidue: yours. -/
def laws_FnResidue.Pure : Prop := ∀ (l0 : List Int) (l1 : List Int), l0.length ≤ maxLen → l0.length * 1 ≤ 140737488351232 → (∀ x ∈ l0, (Lit.int .u8 x).wf = true) → l1.length ≤ maxLen → l1.length * 1 ≤ 140737488351232 → (∀ x ∈ l1, (Lit.int .u8 x).wf = true) → ∃ k, laws_FnResidue.f k l0 l1 = some true
theorem laws_FnResidue.walk (P : laws_FnResidue.Pure) (a0 : Option Addr) (len0 cap0 : Nat) (z0 : List Int) (a1 : Option Addr) (len1 cap1 : Nat) (z1 : List Int) (w : World) (w0 : (a0 = none ∧ len0 = 0 ∧ cap0 = 0 ∧ z0 = []) ∨ ∃ x, a0 = some x ∧ len0 ≤ cap0 ∧ cap0 ≤ maxLen ∧ z0.length = cap0 ∧ (∀ i, i < z0.length → w.cell? (x.add i) = some (.int .u8 (z0.getD i 0))) ∧ ∀ n ∈ z0, (Lit.int .u8 n).wf = true) (y0 : len0 * 1 ≤ 140737488351232) (w1 : (a1 = none ∧ len1 = 0 ∧ cap1 = 0 ∧ z1 = []) ∨ ∃ x, a1 = some x ∧ len1 ≤ cap1 ∧ cap1 ≤ maxLen ∧ z1.length = cap1 ∧ (∀ i, i < z1.length → w.cell? (x.add i) = some (.int .u8 (z1.getD i 0))) ∧ ∀ n ∈ z1, (Lit.int .u8 n).wf = true) (y1 : len1 * 1 ≤ 140737488351232) :
    Calls Try.prog 13 #[.slice a0 len0 cap0, .slice a1 len1 cap1] w fun e w' => e = .returned (.bool true) ∧ Below w.heap.size w w' := by
  obtain ⟨l0, rfl, hr0, hm0, hw0, hc0⟩ := ReadsInt.ofRowC w0
  obtain ⟨l1, rfl, hr1, hm1, hw1, hc1⟩ := ReadsInt.ofRowC w1
  obtain ⟨k, h⟩ := P l0 l1 hm0 y0 hw0 hm1 y1 hw1
  refine (laws_FnResidue.calls k _ _ l0 _ _ l1 true w (Kd.C_of_reads (d := (0 : Int)) (h1 := fun _ => rfl) hr0) hc0 (Kd.C_of_reads (d := (0 : Int)) (h1 := fun _ => rfl) hr1) hc1 h).mono ?_
  rintro e w' ⟨rfl, hd⟩
  exact ⟨rfl, hd⟩

end Go.Proofs.Ytnbjnlbaoogbmaa.PFnResidue
