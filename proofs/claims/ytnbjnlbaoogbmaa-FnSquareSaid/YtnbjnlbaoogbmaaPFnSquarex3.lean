-- PRINTED BY print.sh 35421559b90ae4d0a3588c463048766b98c2df88dd9212a6774a882060cdf62d: not written by this session
import Derived.Test.YtnbjnlbaoogbmaaPFnSquarex0
import Derived.Test.YtnbjnlbaoogbmaaPFnSquarex1
import Derived.Test.YtnbjnlbaoogbmaaPFnSquarex2
namespace Go.Proofs.Ytnbjnlbaoogbmaa.PFnSquare
open Go.RowKit Go.Proofs.YtnbjnlbaoogbmaaW.PrintWords Go.Proofs.YtnbjnlbaoogbmaaW.PrintLast Go.Proofs.YtnbjnlbaoogbmaaW.PrintMore
attribute [local go_sem] max2_int min2_int max_two min_two max_three min_three max_four min_four   -- for this text's walks alone
set_option linter.unusedVariables false
set_option linter.unusedSimpArgs false

/-! ### laws_FnSquare: function 14 -/
mutual
def laws_FnSquare.j0 : Nat → List Int → List Int → Bool → Option (Bool)
  | 0, _, _, _ => none
  | k + 1, x0, x1, x19 => if x19 = true then (some true) else ((spec_DrawSquareIs.f k x0).bind fun t162 => ((impl_SquareIs.f k t162).bind fun t163 => ((spec_SquareIs.f k t162).bind fun t164 => (if (t163 != t164) = true then (laws_FnSquare.j1 k x1 t162 t163 t164 true) else (laws_FnSquare.j1 k x1 t162 t163 t164 (!t163))))))
def laws_FnSquare.j1 : Nat → List Int → Int → Bool → Bool → Bool → Option (Bool)
  | 0, _, _, _, _, _ => none
  | k + 1, x1, x5, x6, x7, x32 => if x32 = true then (some (x6 == x7)) else ((impl_PrimesOf.f k x5).bind fun t165 => (laws_FnSquare.l0 k x1 x5 t165 0))
def laws_FnSquare.l0 : Nat → List Int → Int → List Int → Int → Option (Bool)
  | 0, _, _, _, _ => none
  | k + 1, x1, x5, x8, x9 => if x9 < (x8.length : Int) then (if 0 ≤ x9 then ((impl_ValuationOf.f k x5 (rd x8 x9)).bind fun t171 => (if (Int.tmod t171 2) = 0 then ((impl_SquareIs.f k (wrap64 (x5 * (rd x8 x9)))).bind fun t173 => (if t173 = true then (some false) else (laws_FnSquare.l0 k x1 x5 x8 (wrap64 (x9 + 1))))) else (some false))) else (none)) else ((impl_RootMod.f k x5 (wrap64 (1 + (Int.tmod (wrap64 ((x1.length : Int) * 7)) 90)))).bind fun bt168 => (some bt168.2))
end
def laws_FnSquare.f (k : Nat) (l0 : List Int) (l1 : List Int) : Option (Bool) := if (l0.length : Int) > 1048576 then (laws_FnSquare.j0 k l0 l1 true) else (laws_FnSquare.j0 k l0 l1 (decide ((l1.length : Int) > 1048576)))
theorem laws_FnSquare.mono_l : ∀ k, (∀ y0 y1 y2, LeO (laws_FnSquare.j0 k y0 y1 y2) (laws_FnSquare.j0 (k + 1) y0 y1 y2)) ∧ (∀ y0 y1 y2 y3 y4, LeO (laws_FnSquare.j1 k y0 y1 y2 y3 y4) (laws_FnSquare.j1 (k + 1) y0 y1 y2 y3 y4)) ∧ (∀ y0 y1 y2 y3, LeO (laws_FnSquare.l0 k y0 y1 y2 y3) (laws_FnSquare.l0 (k + 1) y0 y1 y2 y3))
  | 0 => ⟨fun _ _ _ r h => by simp [laws_FnSquare.j0] at h, fun _ _ _ _ _ r h => by simp [laws_FnSquare.j1] at h, fun _ _ _ _ r h => by simp [laws_FnSquare.l0] at h⟩
  | k + 1 => by
    obtain ⟨ih0, ih1, ih2⟩ := laws_FnSquare.mono_l k
    refine ⟨?_, ?_, ?_⟩
    · intro y0 y1 y2
      unfold laws_FnSquare.j0
      repeat' first
      | (with_reducible exact ih0 _ _ _)
      | (with_reducible exact ih1 _ _ _ _ _)
      | (with_reducible exact ih2 _ _ _ _)
      | (with_reducible exact impl_PrimesOf.mono _ _)
      | (with_reducible exact impl_RootMod.mono _ _ _)
      | (with_reducible exact impl_SquareIs.mono _ _)
      | (with_reducible exact impl_ValuationOf.mono _ _ _)
      | (with_reducible exact spec_DrawSquareIs.mono _ _)
      | (with_reducible exact spec_SquareIs.mono _ _)
      | (with_reducible exact LeO.refl _)
      | (with_reducible exact LeO.none _)
      | (with_reducible refine LeO.ite ?_ ?_)
      | (with_reducible refine LeO.bind ?_ (fun _ => ?_))
      | exact ih0 _ _ _
      | exact ih1 _ _ _ _ _
      | exact ih2 _ _ _ _
      | exact impl_PrimesOf.mono _ _
      | exact impl_RootMod.mono _ _ _
      | exact impl_SquareIs.mono _ _
      | exact impl_ValuationOf.mono _ _ _
      | exact spec_DrawSquareIs.mono _ _
      | exact spec_SquareIs.mono _ _
      | exact LeO.none _
      | refine LeO.ite ?_ ?_
      | refine LeO.bind ?_ (fun _ => ?_)
    · intro y0 y1 y2 y3 y4
      unfold laws_FnSquare.j1
      repeat' first
      | (with_reducible exact ih0 _ _ _)
      | (with_reducible exact ih1 _ _ _ _ _)
      | (with_reducible exact ih2 _ _ _ _)
      | (with_reducible exact impl_PrimesOf.mono _ _)
      | (with_reducible exact impl_RootMod.mono _ _ _)
      | (with_reducible exact impl_SquareIs.mono _ _)
      | (with_reducible exact impl_ValuationOf.mono _ _ _)
      | (with_reducible exact spec_DrawSquareIs.mono _ _)
      | (with_reducible exact spec_SquareIs.mono _ _)
      | (with_reducible exact LeO.refl _)
      | (with_reducible exact LeO.none _)
      | (with_reducible refine LeO.ite ?_ ?_)
      | (with_reducible refine LeO.bind ?_ (fun _ => ?_))
      | exact ih0 _ _ _
      | exact ih1 _ _ _ _ _
      | exact ih2 _ _ _ _
      | exact impl_PrimesOf.mono _ _
      | exact impl_RootMod.mono _ _ _
      | exact impl_SquareIs.mono _ _
      | exact impl_ValuationOf.mono _ _ _
      | exact spec_DrawSquareIs.mono _ _
      | exact spec_SquareIs.mono _ _
      | exact LeO.none _
      | refine LeO.ite ?_ ?_
      | refine LeO.bind ?_ (fun _ => ?_)
    · intro y0 y1 y2 y3
      unfold laws_FnSquare.l0
      repeat' first
      | (with_reducible exact ih0 _ _ _)
      | (with_reducible exact ih1 _ _ _ _ _)
      | (with_reducible exact ih2 _ _ _ _)
      | (with_reducible exact impl_PrimesOf.mono _ _)
      | (with_reducible exact impl_RootMod.mono _ _ _)
      | (with_reducible exact impl_SquareIs.mono _ _)
      | (with_reducible exact impl_ValuationOf.mono _ _ _)
      | (with_reducible exact spec_DrawSquareIs.mono _ _)
      | (with_reducible exact spec_SquareIs.mono _ _)
      | (with_reducible exact LeO.refl _)
      | (with_reducible exact LeO.none _)
      | (with_reducible refine LeO.ite ?_ ?_)
      | (with_reducible refine LeO.bind ?_ (fun _ => ?_))
      | exact ih0 _ _ _
      | exact ih1 _ _ _ _ _
      | exact ih2 _ _ _ _
      | exact impl_PrimesOf.mono _ _
      | exact impl_RootMod.mono _ _ _
      | exact impl_SquareIs.mono _ _
      | exact impl_ValuationOf.mono _ _ _
      | exact spec_DrawSquareIs.mono _ _
      | exact spec_SquareIs.mono _ _
      | exact LeO.none _
      | refine LeO.ite ?_ ?_
      | refine LeO.bind ?_ (fun _ => ?_)
theorem laws_FnSquare.mono : ∀ a0 a1 k, LeO (laws_FnSquare.f k a0 a1) (laws_FnSquare.f (k + 1) a0 a1) := by
  intro a0 a1 k
  obtain ⟨ih0, ih1, ih2⟩ := laws_FnSquare.mono_l k
  unfold laws_FnSquare.f
  repeat' first
      | (with_reducible exact ih0 _ _ _)
      | (with_reducible exact ih1 _ _ _ _ _)
      | (with_reducible exact ih2 _ _ _ _)
      | (with_reducible exact impl_PrimesOf.mono _ _)
      | (with_reducible exact impl_RootMod.mono _ _ _)
      | (with_reducible exact impl_SquareIs.mono _ _)
      | (with_reducible exact impl_ValuationOf.mono _ _ _)
      | (with_reducible exact spec_DrawSquareIs.mono _ _)
      | (with_reducible exact spec_SquareIs.mono _ _)
      | (with_reducible exact LeO.refl _)
      | (with_reducible exact LeO.none _)
      | (with_reducible refine LeO.ite ?_ ?_)
      | (with_reducible refine LeO.bind ?_ (fun _ => ?_))
      | exact ih0 _ _ _
      | exact ih1 _ _ _ _ _
      | exact ih2 _ _ _ _
      | exact impl_PrimesOf.mono _ _
      | exact impl_RootMod.mono _ _ _
      | exact impl_SquareIs.mono _ _
      | exact impl_ValuationOf.mono _ _ _
      | exact spec_DrawSquareIs.mono _ _
      | exact spec_SquareIs.mono _ _
      | exact LeO.none _
      | refine LeO.ite ?_ ?_
      | refine LeO.bind ?_ (fun _ => ?_)
set_option maxHeartbeats 8000000 in
set_option maxRecDepth 100000 in
theorem laws_FnSquare.calls (k : Nat) (A0 : Option Addr) (c0 : Nat) (l0 : List Int) (A1 : Option Addr) (c1 : Nat) (l1 : List Int) (r : Bool) (w : World) (hr0 : Kd.C (Kd.int .u8) w A0 l0.length l0) (hc0 : l0.length ≤ c0) (hr1 : Kd.C (Kd.int .u8) w A1 l1.length l1) (hc1 : l1.length ≤ c1) (h : laws_FnSquare.f k l0 l1 = some r) :
    Calls Try.prog 14 #[.slice A0 l0.length c0, .slice A1 l1.length c1] w fun e w' => e = .returned (.bool r) ∧ Below w.heap.size w w' := by
  have HR0 := Aside0.mk hr0
  have HC0 := Aside0.mk hc0
  clear hr0 hc0
  have HR1 := Aside0.mk hr1
  have HC1 := Aside0.mk hc1
  clear hr1 hc1
  have HB := Aside0.mk (Below.refl w.heap.size w)
  have H : (if (l0.length : Int) > 1048576 then (laws_FnSquare.j0 k l0 l1 true) else (laws_FnSquare.j0 k l0 l1 (decide ((l1.length : Int) > 1048576)))) = some r := h
  clear h
  have HC3 := Aside0.mk H
  clear H
  go_enter Try.func14, Try.ntmps14
  go_upto_region 1 with (fail)
  go_cut [19] (fun v19 wc => ∃ (kq : Nat) (x19_2 : Bool), v19 = .bool x19_2 ∧ Aside0 (laws_FnSquare.j0 kq l0 l1 x19_2 = some r) ∧ Aside0 (kq ≤ k) ∧ Aside0 (Below w.heap.size w wc))
  case first =>
    have H := HC3.out
    clear HC3
    by_cases c4 : (l0.length : Int) > 1048576
    · rw [if_pos c4] at H
      have c4b0 : decide (1048576 < (l0.length : Int)) = true := decide_eq_true c4
      have c4b1 : decide (1048576 < l0.length) = true := decide_eq_true (by omega)
      clear c4
      (first | rw [c4b0] | (simp only [i64_w, i32_w]; rw [c4b0]) | skip)
      have H' := Aside0.mk H
      clear H
      go_wp2
      go_meet
      case rel => exact ⟨_, (true), (by first | rfl | (simp; done) | (simp [*]; done)), H', ⟨by first | omega | exact Nat.le_refl _⟩, ⟨by repeat (first | (with_reducible first | exact HB.out | apply below_alloc | apply pw_below_drewN | apply below_drew1) | exact HB.out)⟩⟩
    · rw [if_neg c4] at H
      have c4b0 : decide (1048576 < (l0.length : Int)) = false := decide_eq_false c4
      have c4b1 : decide (1048576 < l0.length) = false := decide_eq_false (by omega)
      clear c4
      (first | rw [c4b0] | (simp only [i64_w, i32_w]; rw [c4b0]) | skip)
      have H' := Aside0.mk H
      clear H
      go_wp2
      go_meet
      case rel => exact ⟨_, (decide ((l1.length : Int) > 1048576)), (by first | rfl | (simp; done) | (simp [*]; done)), H', ⟨by first | omega | exact Nat.le_refl _⟩, ⟨by repeat (first | (with_reducible first | exact HB.out | apply below_alloc | apply pw_below_drewN | apply below_drew1) | exact HB.out)⟩⟩
  case rest =>
    clear HC3
    try clear c1
    try clear p2
    try clear c4
    try clear c4b0
    try clear c4b1
    obtain ⟨kq, x19_2, rfl, HA, HJ2, HB⟩ := hcut
    cases kq with
    | zero => exact absurd HA.out (by simp [laws_FnSquare.j0])
    | succ kj2 =>
      have H := HA.out
      clear HA
      simp only [laws_FnSquare.j0] at H
      by_cases c5 : x19_2 = true
      · subst c5
        have H1 : (some true) = some r := by rw [if_pos rfl] at H; exact H
        clear H
        have H := H1
        clear H1
        obtain rfl := Option.some.inj H
        go_wp2
        go_ret
        exact ⟨by first | rfl | (simp [errW_none, errW_some] <;> rfl) | (simp [*, errW_none, errW_some] <;> rfl), by repeat (first | (with_reducible first | exact HB.out | apply below_alloc | apply pw_below_drewN | apply below_drew1) | exact HB.out)⟩
      · replace c5 := Bool.eq_false_iff.mpr c5
        subst c5
        have H1 : ((spec_DrawSquareIs.f kj2 l0).bind fun t162 => ((impl_SquareIs.f kj2 t162).bind fun t163 => ((spec_SquareIs.f kj2 t162).bind fun t164 => (if (t163 != t164) = true then (laws_FnSquare.j1 kj2 l1 t162 t163 t164 true) else (laws_FnSquare.j1 kj2 l1 t162 t163 t164 (!t163)))))) = some r := by rw [if_neg (show ¬ (false = true) by decide)] at H; exact H
        clear H
        have H := H1
        clear H1
        replace H := Option.bind_eq_some_iff.mp H
        obtain ⟨t162, A60, H⟩ := H
        replace H : ((impl_SquareIs.f kj2 t162).bind fun t163 => ((spec_SquareIs.f kj2 t162).bind fun t164 => (if (t163 != t164) = true then (laws_FnSquare.j1 kj2 l1 t162 t163 t164 true) else (laws_FnSquare.j1 kj2 l1 t162 t163 t164 (!t163))))) = some r := H
        have A6 := Aside0.mk A60
        clear A60
        replace H := Option.bind_eq_some_iff.mp H
        obtain ⟨t163, A70, H⟩ := H
        replace H : ((spec_SquareIs.f kj2 t162).bind fun t164 => (if (t163 != t164) = true then (laws_FnSquare.j1 kj2 l1 t162 t163 t164 true) else (laws_FnSquare.j1 kj2 l1 t162 t163 t164 (!t163)))) = some r := H
        have A7 := Aside0.mk A70
        clear A70
        replace H := Option.bind_eq_some_iff.mp H
        obtain ⟨t164, A80, H⟩ := H
        replace H : (if (t163 != t164) = true then (laws_FnSquare.j1 kj2 l1 t162 t163 t164 true) else (laws_FnSquare.j1 kj2 l1 t162 t163 t164 (!t163))) = some r := H
        have A8 := Aside0.mk A80
        clear A80
        have HC9 := Aside0.mk H
        clear H
        go_upto_region 6 with (first | ((with_reducible refine gate_callee (f := 51) rfl ?_); refine goesL_ (some 21) rfl rfl Try.func51 (by kernel_rfl) rfl #[.slice A0 l0.length c0] rfl (by (try simp only [List.map_toArray, List.map_cons, List.map_nil]); first | done | rfl | (simp only [List.length_drop, List.length_take]; rfl)) ?_; (with_reducible refine (spec_DrawSquareIs.calls kj2 _ _ l0 t162 _ ?side1 ?side2 A6.out).mono ?_); (case side1 => repeat (first | exact (Kd.C_below HR0.out HB.out) | (with_reducible refine Kd.C_alloc ?_ _) | (with_reducible refine Kd.C_drewN ?_ _) | (with_reducible refine Kd.C_drew ?_))); (case side2 => exact HC0.out); rintro e w10 ⟨rfl, hb⟩; refine ⟨_, rfl, ?_⟩; have n0_ := Aside0.mk (below_step (by repeat (first | (with_reducible first | exact HB.out | apply below_alloc | apply pw_below_drewN | apply below_drew1) | exact HB.out)) hb); clear HB; have HB := n0_; clear n0_; (try clear hb); (try clear hb2); (try clear hk); (try clear hi)) | ((with_reducible refine gate_callee (f := 29) rfl ?_); refine goesL_ (some 23) rfl rfl Try.func29 (by kernel_rfl) rfl #[.int .i64 t162] rfl (by (try simp only [List.map_toArray, List.map_cons, List.map_nil]); first | done | rfl | (simp only [List.length_drop, List.length_take]; rfl)) ?_; (with_reducible refine (impl_SquareIs.calls kj2 t162 t163 _ A7.out).mono ?_); rintro e w' ⟨rfl, ⟨nd, rfl⟩⟩; refine ⟨_, rfl, ?_⟩) | ((with_reducible refine gate_callee (f := 52) rfl ?_); refine goesL_ (some 25) rfl rfl Try.func52 (by kernel_rfl) rfl #[.int .i64 t162] rfl (by (try simp only [List.map_toArray, List.map_cons, List.map_nil]); first | done | rfl | (simp only [List.length_drop, List.length_take]; rfl)) ?_; (with_reducible refine (spec_SquareIs.calls kj2 t162 t164 _ A8.out).mono ?_); rintro e w' ⟨rfl, ⟨nd, rfl⟩⟩; refine ⟨_, rfl, ?_⟩))
        (try simp only [Act.put, List.setIfInBounds_toArray, List.set_cons_zero, List.set_cons_succ])
        go_cut [32] (fun v32 wc => ∃ (kq : Nat) (x32_8 : Bool), v32 = .bool x32_8 ∧ Aside0 (laws_FnSquare.j1 kq l1 t162 t163 t164 x32_8 = some r) ∧ Aside0 (kq ≤ kj2) ∧ Aside0 (Below w.heap.size w wc))
        case first =>
          have H := HC9.out
          clear HC9
          by_cases c11 : (t163 != t164) = true
          · rw [if_pos c11] at H
            have c11b0 : (t163 != t164) = true := c11
            (try (have c11b1 : decide (t163 = t164) = false := by simpa using c11))
            (try (have c11b2 : (t163 == t164) = false := by simpa using c11))
            (try (have c11b3 : ¬ (t163 = t164) := by simpa using c11))
            clear c11
            (first | rw [c11b0] | (simp only [i64_w, i32_w]; rw [c11b0]) | skip)
            have H' := Aside0.mk H
            clear H
            go_wp2
            go_meet
            case rel => exact ⟨_, (true), (by first | rfl | (simp; done) | (simp [*]; done)), H', ⟨by have := HJ2.out; first | omega | exact Nat.le_refl _⟩, ⟨by repeat (first | (with_reducible first | exact HB.out | apply below_alloc | apply pw_below_drewN | apply below_drew1) | exact HB.out)⟩⟩
          · rw [if_neg c11] at H
            have c11b0 : (t163 != t164) = false := by simpa using c11
            (try (have c11b1 : decide (t163 = t164) = true := by simpa using c11))
            (try (have c11b2 : (t163 == t164) = true := by simpa using c11))
            clear c11
            (first | rw [c11b0] | (simp only [i64_w, i32_w]; rw [c11b0]) | skip)
            have H' := Aside0.mk H
            clear H
            go_wp2
            go_meet
            case rel => exact ⟨_, (!t163), (by first | rfl | (simp; done) | (simp [*]; done)), H', ⟨by have := HJ2.out; first | omega | exact Nat.le_refl _⟩, ⟨by repeat (first | (with_reducible first | exact HB.out | apply below_alloc | apply pw_below_drewN | apply below_drew1) | exact HB.out)⟩⟩
        case rest =>
          clear HC9
          try clear c1
          try clear c2
          try clear p2
          try clear c4
          try clear c4b0
          try clear c4b1
          try clear c5
          try clear c11
          try clear c11b0
          try clear c11b1
          try clear c11b2
          try clear p2
          obtain ⟨kq, x32_8, rfl, HA, HJ8, HB⟩ := hcut
          cases kq with
          | zero => exact absurd HA.out (by simp [laws_FnSquare.j1])
          | succ kj8 =>
            have H := HA.out
            clear HA
            simp only [laws_FnSquare.j1] at H
            by_cases c12 : x32_8 = true
            · subst c12
              have H1 : (some (t163 == t164)) = some r := by rw [if_pos rfl] at H; exact H
              clear H
              have H := H1
              clear H1
              obtain rfl := Option.some.inj H
              go_wp2
              go_ret
              exact ⟨by first | rfl | (simp [errW_none, errW_some] <;> rfl) | (simp [*, errW_none, errW_some] <;> rfl), by repeat (first | (with_reducible first | exact HB.out | apply below_alloc | apply pw_below_drewN | apply below_drew1) | exact HB.out)⟩
            · replace c12 := Bool.eq_false_iff.mpr c12
              subst c12
              have H1 : ((impl_PrimesOf.f kj8 t162).bind fun t165 => (laws_FnSquare.l0 kj8 l1 t162 t165 0)) = some r := by rw [if_neg (show ¬ (false = true) by decide)] at H; exact H
              clear H
              have H := H1
              clear H1
              replace H := Option.bind_eq_some_iff.mp H
              obtain ⟨t165, A130, H⟩ := H
              replace H : (laws_FnSquare.l0 kj8 l1 t162 t165 0) = some r := H
              have A13 := Aside0.mk A130
              clear A130
              have H' := Aside0.mk H
              clear H
              go_wp2_with (first | ((with_reducible refine gate_callee (f := 39) rfl ?_); refine goesL_ (some 37) rfl rfl Try.func39 (by kernel_rfl) rfl #[.int .i64 t162] rfl (by (try simp only [List.map_toArray, List.map_cons, List.map_nil]); first | done | rfl | (simp only [List.length_drop, List.length_take]; rfl)) ?_; (with_reducible refine (impl_PrimesOf.calls kj8 t162 t165 _ A13.out).mono ?_); rintro e w14 ⟨v166, rfl, ho0, hb⟩; refine ⟨_, rfl, ?_⟩; have n0_ := Aside0.mk (Kd.R_lower ho0 (below_size (by repeat (first | (with_reducible first | exact HB.out | apply below_alloc | apply pw_below_drewN | apply below_drew1) | exact HB.out)))); have n1_ := Aside0.mk (below_step (by repeat (first | (with_reducible first | exact HB.out | apply below_alloc | apply pw_below_drewN | apply below_drew1) | exact HB.out)) hb); clear HB; have HO167 := n0_; have HB := n1_; clear n0_ n1_; (try clear hb); (try clear hb2); (try clear hk); (try clear hi); (try clear ho0)))
              go_loopg [9] kj8 (fun kq v9 w' => ∃ (x9_3 : Int), v9 = .int .i64 x9_3 ∧ Aside0 (laws_FnSquare.l0 kq l1 t162 t165 x9_3 = some r) ∧ Aside0 (kq ≤ kj8) ∧ Aside0 (Kd.R (Kd.int .i64) 3 w' w.heap.size (fun _ => True) v166 t165) ∧ Aside0 (Below w.heap.size w w'))
              case atStart => exact ⟨(0), (by first | rfl | (simp; done) | (simp [*]; done)), H', ⟨Nat.le_refl _⟩, ⟨by (with_reducible repeat (first | apply Kd.R_alloc | apply Kd.R_drewN | apply Kd.R_drew)); exact HO167.out⟩, ⟨by repeat (first | (with_reducible first | exact HB.out | apply below_alloc | apply pw_below_drewN | apply below_drew1) | exact HB.out)⟩⟩
              case round =>
                clear H'
                try clear c1
                try clear c2
                try clear p2
                try clear c3
                try clear c4
                try clear c4b0
                try clear c4b1
                try clear c5
                try clear c11
                try clear c11b0
                try clear c11b1
                try clear c11b2
                try clear c12
                try clear c14
                try clear p2
                obtain ⟨x9_3, rfl, HA, HK3, HO_8, HB⟩ := hrel
                cases gk with
                | zero => exact absurd HA.out (by simp [laws_FnSquare.l0])
                | succ k3 =>
                  have H := HA.out
                  clear HA
                  simp only [laws_FnSquare.l0] at H
                  by_cases c15 : x9_3 < (t165.length : Int)
                  · rw [if_pos c15] at H
                    have c15b0 : decide (x9_3 < (t165.length : Int)) = true := decide_eq_true c15
                    clear c15
                    by_cases c16 : 0 ≤ x9_3
                    · rw [if_pos c16] at H
                      have c16b0 : decide (0 ≤ x9_3) = true := decide_eq_true c16
                      clear c16
                      replace H := Option.bind_eq_some_iff.mp H
                      obtain ⟨t171, A170, H⟩ := H
                      replace H : (if (Int.tmod t171 2) = 0 then ((impl_SquareIs.f k3 (wrap64 (t162 * (rd t165 x9_3)))).bind fun t173 => (if t173 = true then (some false) else (laws_FnSquare.l0 k3 l1 t162 t165 (wrap64 (x9_3 + 1))))) else (some false)) = some r := H
                      have A17 := Aside0.mk A170
                      clear A170
                      by_cases c18 : (Int.tmod t171 2) = 0
                      · rw [if_pos c18] at H
                        have c18b0 : ((Int.tmod t171 2) == 0) = true := beq_iff_eq.mpr c18
                        have c18b1 : ((Int.tmod t171 2) != 0) = false := bne_eq_false_iff_eq.mpr c18
                        clear c18
                        replace H := Option.bind_eq_some_iff.mp H
                        obtain ⟨t173, A190, H⟩ := H
                        replace H : (if t173 = true then (some false) else (laws_FnSquare.l0 k3 l1 t162 t165 (wrap64 (x9_3 + 1)))) = some r := H
                        have A19 := Aside0.mk A190
                        clear A190
                        by_cases c20 : t173 = true
                        · subst c20
                          have H1 : (some false) = some r := by rw [if_pos rfl] at H; exact H
                          clear H
                          have H := H1
                          clear H1
                          obtain rfl := Option.some.inj H
                          obtain ⟨Ao21, co21, eo21⟩ := Kd.R_slice HO_8.out
                          subst eo21
                          have p170 : 0 ≤ (x9_3 : Int) := of_decide_eq_true (by first | (with_reducible assumption) | assumption)
                          have q170 : x9_3 < (t165.length : Int) := of_decide_eq_true (by first | (with_reducible assumption) | assumption)
                          obtain ⟨ad170, e170, hx170_0⟩ := Kd.at_int (Kd.R_reads' HO_8.out).2.2 x9_3 p170 q170
                          cases e170
                          replace p170 := eq_true p170
                          replace q170 := eq_true q170
                          go_wp2_with (first | ((with_reducible refine gate_callee (f := 16) rfl ?_); refine goesL_ (some 49) rfl rfl Try.func16 (by kernel_rfl) rfl #[.int .i64 t162, .int .i64 (rd t165 x9_3)] rfl (by (try simp only [List.map_toArray, List.map_cons, List.map_nil]); first | done | rfl | (simp only [List.length_drop, List.length_take]; rfl)) ?_; (with_reducible refine (impl_ValuationOf.calls k3 t162 (rd t165 x9_3) t171 _ A17.out).mono ?_); rintro e w' ⟨rfl, ⟨nd, rfl⟩⟩; refine ⟨_, rfl, ?_⟩; have p172 : 0 ≤ (x9_3 : Int) := of_decide_eq_true (by first | (with_reducible assumption) | assumption); have q172 : x9_3 < (t165.length : Int) := of_decide_eq_true (by first | (with_reducible assumption) | assumption); obtain ⟨ad172, e172, hx172_0⟩ := Kd.at_int (Kd.R_reads' HO_8.out).2.2 x9_3 p172 q172; obtain rfl : ad170 = ad172 := (by injection e172); replace p172 := eq_true p172; replace q172 := eq_true q172) | (go_at_call 29; (with_reducible refine (impl_SquareIs.calls k3 (wrap64 (t162 * (rd t165 x9_3))) true _ A19.out).mono ?_); rintro e w' ⟨rfl, ⟨nd, rfl⟩⟩))
                          go_ret
                          exact ⟨by first | rfl | (simp [errW_none, errW_some] <;> rfl) | (simp [*, errW_none, errW_some] <;> rfl), by repeat (first | (with_reducible first | exact HB.out | apply below_alloc | apply pw_below_drewN | apply below_drew1) | exact HB.out)⟩
                        · replace c20 := Bool.eq_false_iff.mpr c20
                          subst c20
                          have H1 : (laws_FnSquare.l0 k3 l1 t162 t165 (wrap64 (x9_3 + 1))) = some r := by rw [if_neg (show ¬ (false = true) by decide)] at H; exact H
                          clear H
                          have H := H1
                          clear H1
                          have H' := Aside0.mk H
                          clear H
                          obtain ⟨Ao22, co22, eo22⟩ := Kd.R_slice HO_8.out
                          subst eo22
                          have p170 : 0 ≤ (x9_3 : Int) := of_decide_eq_true (by first | (with_reducible assumption) | assumption)
                          have q170 : x9_3 < (t165.length : Int) := of_decide_eq_true (by first | (with_reducible assumption) | assumption)
                          obtain ⟨ad170, e170, hx170_0⟩ := Kd.at_int (Kd.R_reads' HO_8.out).2.2 x9_3 p170 q170
                          cases e170
                          replace p170 := eq_true p170
                          replace q170 := eq_true q170
                          go_wp2_with (first | ((with_reducible refine gate_callee (f := 16) rfl ?_); refine goesL_ (some 49) rfl rfl Try.func16 (by kernel_rfl) rfl #[.int .i64 t162, .int .i64 (rd t165 x9_3)] rfl (by (try simp only [List.map_toArray, List.map_cons, List.map_nil]); first | done | rfl | (simp only [List.length_drop, List.length_take]; rfl)) ?_; (with_reducible refine (impl_ValuationOf.calls k3 t162 (rd t165 x9_3) t171 _ A17.out).mono ?_); rintro e w' ⟨rfl, ⟨nd, rfl⟩⟩; refine ⟨_, rfl, ?_⟩; have p172 : 0 ≤ (x9_3 : Int) := of_decide_eq_true (by first | (with_reducible assumption) | assumption); have q172 : x9_3 < (t165.length : Int) := of_decide_eq_true (by first | (with_reducible assumption) | assumption); obtain ⟨ad172, e172, hx172_0⟩ := Kd.at_int (Kd.R_reads' HO_8.out).2.2 x9_3 p172 q172; obtain rfl : ad170 = ad172 := (by injection e172); replace p172 := eq_true p172; replace q172 := eq_true q172) | (go_at_call 29; (with_reducible refine (impl_SquareIs.calls k3 (wrap64 (t162 * (rd t165 x9_3))) false _ A19.out).mono ?_); rintro e w' ⟨rfl, ⟨nd, rfl⟩⟩))
                          go_roundg k3
                          case measure => have := HJ2.out; have := HJ8.out; have := HK3.out; omega
                          case rel => exact ⟨(wrap64 (x9_3 + 1)), (by first | rfl | (simp; done) | (simp [*]; done)), H', ⟨by have := HJ2.out; have := HJ8.out; have := HK3.out; omega⟩, ⟨by (with_reducible repeat (first | apply Kd.R_alloc | apply Kd.R_drewN | apply Kd.R_drew)); exact HO_8.out⟩, ⟨by repeat (first | (with_reducible first | exact HB.out | apply below_alloc | apply pw_below_drewN | apply below_drew1) | exact HB.out)⟩⟩
                      · rw [if_neg c18] at H
                        have c18b0 : ((Int.tmod t171 2) == 0) = false := beq_eq_false_iff_ne.mpr c18
                        have c18b1 : ((Int.tmod t171 2) != 0) = true := bne_iff_ne.mpr c18
                        obtain rfl := Option.some.inj H
                        obtain ⟨Ao23, co23, eo23⟩ := Kd.R_slice HO_8.out
                        subst eo23
                        have p170 : 0 ≤ (x9_3 : Int) := of_decide_eq_true (by first | (with_reducible assumption) | assumption)
                        have q170 : x9_3 < (t165.length : Int) := of_decide_eq_true (by first | (with_reducible assumption) | assumption)
                        obtain ⟨ad170, e170, hx170_0⟩ := Kd.at_int (Kd.R_reads' HO_8.out).2.2 x9_3 p170 q170
                        cases e170
                        replace p170 := eq_true p170
                        replace q170 := eq_true q170
                        go_wp2_with (first | ((with_reducible refine gate_callee (f := 16) rfl ?_); refine goesL_ (some 49) rfl rfl Try.func16 (by kernel_rfl) rfl #[.int .i64 t162, .int .i64 (rd t165 x9_3)] rfl (by (try simp only [List.map_toArray, List.map_cons, List.map_nil]); first | done | rfl | (simp only [List.length_drop, List.length_take]; rfl)) ?_; (with_reducible refine (impl_ValuationOf.calls k3 t162 (rd t165 x9_3) t171 _ A17.out).mono ?_); rintro e w' ⟨rfl, ⟨nd, rfl⟩⟩; refine ⟨_, rfl, ?_⟩))
                        go_ret
                        exact ⟨by first | rfl | (simp [errW_none, errW_some] <;> rfl) | (simp [*, errW_none, errW_some] <;> rfl), by repeat (first | (with_reducible first | exact HB.out | apply below_alloc | apply pw_below_drewN | apply below_drew1) | exact HB.out)⟩
                    · rw [if_neg c16] at H
                      exact absurd H (by simp)
                  · rw [if_neg c15] at H
                    have c15b0 : decide (x9_3 < (t165.length : Int)) = false := decide_eq_false c15
                    clear c15
                    replace H := Option.bind_eq_some_iff.mp H
                    obtain ⟨⟨t168, t169⟩, A240, H⟩ := H
                    replace H : (some t169) = some r := H
                    have A24 := Aside0.mk A240
                    clear A240
                    obtain rfl := Option.some.inj H
                    obtain ⟨Ao25, co25, eo25⟩ := Kd.R_slice HO_8.out
                    subst eo25
                    go_wp2_with (first | ((with_reducible refine gate_callee (f := 50) rfl ?_); refine goesL_ (some 68) rfl rfl Try.func50 (by kernel_rfl) rfl #[.int .i64 t162, .int .i64 (wrap64 (1 + (Int.tmod (wrap64 ((l1.length : Int) * 7)) 90)))] rfl (by (try simp only [List.map_toArray, List.map_cons, List.map_nil]); first | done | rfl | (simp only [List.length_drop, List.length_take]; rfl)) ?_; (with_reducible refine (impl_RootMod.calls k3 t162 (wrap64 (1 + (Int.tmod (wrap64 ((l1.length : Int) * 7)) 90))) t168 t169 _ A24.out).mono ?_); rintro e w' ⟨rfl, ⟨nd, rfl⟩⟩; refine ⟨_, rfl, ?_⟩))
                    go_ret
                    exact ⟨by first | rfl | (simp [errW_none, errW_some] <;> rfl) | (simp [*, errW_none, errW_some] <;> rfl), by repeat (first | (with_reducible first | exact HB.out | apply below_alloc | apply pw_below_drewN | apply below_drew1) | exact HB.out)⟩

/-- THE ONE PURE STATEMENT of laws_FnSquare: yours. -/
def laws_FnSquare.Pure : Prop := ∀ (l0 : List Int) (l1 : List Int), l0.length ≤ maxLen → l0.length * 1 ≤ 140737488351232 → (∀ x ∈ l0, (Lit.int .u8 x).wf = true) → l1.length ≤ maxLen → l1.length * 1 ≤ 140737488351232 → (∀ x ∈ l1, (Lit.int .u8 x).wf = true) → ∃ k, laws_FnSquare.f k l0 l1 = some true
theorem laws_FnSquare.walk (P : laws_FnSquare.Pure) (a0 : Option Addr) (len0 cap0 : Nat) (z0 : List Int) (a1 : Option Addr) (len1 cap1 : Nat) (z1 : List Int) (w : World) (w0 : (a0 = none ∧ len0 = 0 ∧ cap0 = 0 ∧ z0 = []) ∨ ∃ x, a0 = some x ∧ len0 ≤ cap0 ∧ cap0 ≤ maxLen ∧ z0.length = cap0 ∧ (∀ i, i < z0.length → w.cell? (x.add i) = some (.int .u8 (z0.getD i 0))) ∧ ∀ n ∈ z0, (Lit.int .u8 n).wf = true) (y0 : len0 * 1 ≤ 140737488351232) (w1 : (a1 = none ∧ len1 = 0 ∧ cap1 = 0 ∧ z1 = []) ∨ ∃ x, a1 = some x ∧ len1 ≤ cap1 ∧ cap1 ≤ maxLen ∧ z1.length = cap1 ∧ (∀ i, i < z1.length → w.cell? (x.add i) = some (.int .u8 (z1.getD i 0))) ∧ ∀ n ∈ z1, (Lit.int .u8 n).wf = true) (y1 : len1 * 1 ≤ 140737488351232) :
    Calls Try.prog 14 #[.slice a0 len0 cap0, .slice a1 len1 cap1] w fun e w' => e = .returned (.bool true) ∧ Below w.heap.size w w' := by
  obtain ⟨l0, rfl, hr0, hm0, hw0, hc0⟩ := ReadsInt.ofRowC w0
  obtain ⟨l1, rfl, hr1, hm1, hw1, hc1⟩ := ReadsInt.ofRowC w1
  obtain ⟨k, h⟩ := P l0 l1 hm0 y0 hw0 hm1 y1 hw1
  refine (laws_FnSquare.calls k _ _ l0 _ _ l1 true w (Kd.C_of_reads (d := (0 : Int)) (h1 := fun _ => rfl) hr0) hc0 (Kd.C_of_reads (d := (0 : Int)) (h1 := fun _ => rfl) hr1) hc1 h).mono ?_
  rintro e w' ⟨rfl, hd⟩
  exact ⟨rfl, hd⟩

end Go.Proofs.Ytnbjnlbaoogbmaa.PFnSquare
