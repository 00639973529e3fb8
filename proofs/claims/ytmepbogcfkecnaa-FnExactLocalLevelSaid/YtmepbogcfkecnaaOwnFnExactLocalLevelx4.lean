/- Steps of the functions that FnExactLocalLevel reaches, written by a program of this workplace for this claim: each comes to the answers of the plain function beside it. -/
import Derived.Test.YtmepbogcfkecnaaOwnFnExactLocalLevelx0
import Derived.Test.YtmepbogcfkecnaaOwnFnExactLocalLevelx3
namespace Go.Proofs.Ytmepbogcfkecnaa.PFnExactLocalLevel
open Go.RowKit Go.Proofs.YtmepbogcfkecnaaW.PrintWords Go.Proofs.YtmepbogcfkecnaaW.PrintLast Go.Proofs.YtmepbogcfkecnaaW.PrintMore
attribute [local go_sem] max2_int min2_int max_two min_two max_three min_three max_four min_four   -- for this text's walks alone
set_option linter.unusedVariables false
set_option linter.unusedSimpArgs false

/-! ### impl_LocalLevel: function 40 -/
mutual
def impl_LocalLevel.j0 : Nat → Int → Bool → Option (Int)
  | 0, _, _ => none
  | k + 1, x0, x17 => if x17 = true then (some (-1)) else (if x0 = 2 then (impl_LocalLevel.j1 k 16) else (impl_LocalLevel.j1 k x0))
def impl_LocalLevel.j1 : Nat → Int → Option (Int)
  | 0, _ => none
  | k + 1, x3 => if 0 ≤ x3 then (if (x3 : Int).toNat ≤ 281474976710656 then (impl_LocalLevel.l0 k x3 (List.replicate (x3 : Int).toNat false) (List.replicate (x3 : Int).toNat false) x3 0) else (none)) else (none)
def impl_LocalLevel.l0 : Nat → Int → List Bool → List Bool → Int → Int → Option (Int)
  | 0, _, _, _, _, _ => none
  | k + 1, x3, x4, x5, x25, x26 => if x26 < x25 then (if x3 = 0 then (none) else (if 0 ≤ (Int.tmod (wrap64 (x26 * x26)) x3) then (if (Int.tmod (wrap64 (x26 * x26)) x3) < (x4.length : Int) then (impl_LocalLevel.l0 k x3 (x4.set ((Int.tmod (wrap64 (x26 * x26)) x3) : Int).toNat true) x5 x25 (wrap64 (x26 + 1))) else (none)) else (none))) else (if 0 < (x5.length : Int) then (impl_LocalLevel.l1 k x3 x4 (x5.set (0 : Int).toNat true) 1) else (none))
def impl_LocalLevel.l1 : Nat → Int → List Bool → List Bool → Int → Option (Int)
  | 0, _, _, _, _ => none
  | k + 1, x3, x4, x5, x7 => if 0 ≤ x3 then (if (x3 : Int).toNat ≤ 281474976710656 then (impl_LocalLevel.l2 k x3 x4 x5 x7 (List.replicate (x3 : Int).toNat false) x3 0) else (none)) else (none)
def impl_LocalLevel.l2 : Nat → Int → List Bool → List Bool → Int → List Bool → Int → Int → Option (Int)
  | 0, _, _, _, _, _, _, _ => none
  | k + 1, x3, x4, x5, x7, x8, x43, x44 => if x44 < x43 then (impl_LocalLevel.l3 k x3 x4 x5 x7 x8 x44 x43 x44 x3 0) else (if 0 ≤ (wrap64 (x3 - 1)) then (if (wrap64 (x3 - 1)) < (x8.length : Int) then (if rdOf false x8 (wrap64 (x3 - 1)) = true then (some x7) else (impl_LocalLevel.l1 k x3 x4 x8 (wrap64 (x7 + 1)))) else (none)) else (none))
def impl_LocalLevel.l3 : Nat → Int → List Bool → List Bool → Int → List Bool → Int → Int → Int → Int → Int → Option (Int)
  | 0, _, _, _, _, _, _, _, _, _, _ => none
  | k + 1, x3, x4, x5, x7, x8, x9, x43, x44, x47, x48 => if x48 < x47 then (if 0 ≤ x9 then (if x9 < (x5.length : Int) then (if rdOf false x5 x9 = true then (if 0 ≤ x48 then (if x48 < (x4.length : Int) then (if rdOf false x4 x48 = true then (if x3 = 0 then (none) else (if 0 ≤ (Int.tmod (wrap64 (x9 + x48)) x3) then (if (Int.tmod (wrap64 (x9 + x48)) x3) < (x8.length : Int) then (impl_LocalLevel.l3 k x3 x4 x5 x7 (x8.set ((Int.tmod (wrap64 (x9 + x48)) x3) : Int).toNat true) x9 x43 x44 x47 (wrap64 (x48 + 1))) else (none)) else (none))) else (impl_LocalLevel.l3 k x3 x4 x5 x7 x8 x9 x43 x44 x47 (wrap64 (x48 + 1)))) else (none)) else (none)) else (impl_LocalLevel.l3 k x3 x4 x5 x7 x8 x9 x43 x44 x47 (wrap64 (x48 + 1)))) else (none)) else (none)) else (impl_LocalLevel.l2 k x3 x4 x5 x7 x8 x43 (wrap64 (x44 + 1)))
end
def impl_LocalLevel.f (k : Nat) (a0 : Int) : Option (Int) := if a0 = 0 then (impl_LocalLevel.j0 k a0 true) else ((impl_PlaceValid.f k a0).bind fun t117 => (impl_LocalLevel.j0 k a0 (!t117)))
theorem impl_LocalLevel.mono_l : ∀ k, (∀ y0 y1, LeO (impl_LocalLevel.j0 k y0 y1) (impl_LocalLevel.j0 (k + 1) y0 y1)) ∧ (∀ y0, LeO (impl_LocalLevel.j1 k y0) (impl_LocalLevel.j1 (k + 1) y0)) ∧ (∀ y0 y1 y2 y3 y4, LeO (impl_LocalLevel.l0 k y0 y1 y2 y3 y4) (impl_LocalLevel.l0 (k + 1) y0 y1 y2 y3 y4)) ∧ (∀ y0 y1 y2 y3, LeO (impl_LocalLevel.l1 k y0 y1 y2 y3) (impl_LocalLevel.l1 (k + 1) y0 y1 y2 y3)) ∧ (∀ y0 y1 y2 y3 y4 y5 y6, LeO (impl_LocalLevel.l2 k y0 y1 y2 y3 y4 y5 y6) (impl_LocalLevel.l2 (k + 1) y0 y1 y2 y3 y4 y5 y6)) ∧ (∀ y0 y1 y2 y3 y4 y5 y6 y7 y8 y9, LeO (impl_LocalLevel.l3 k y0 y1 y2 y3 y4 y5 y6 y7 y8 y9) (impl_LocalLevel.l3 (k + 1) y0 y1 y2 y3 y4 y5 y6 y7 y8 y9))
  | 0 => ⟨fun _ _ r h => by simp [impl_LocalLevel.j0] at h, fun _ r h => by simp [impl_LocalLevel.j1] at h, fun _ _ _ _ _ r h => by simp [impl_LocalLevel.l0] at h, fun _ _ _ _ r h => by simp [impl_LocalLevel.l1] at h, fun _ _ _ _ _ _ _ r h => by simp [impl_LocalLevel.l2] at h, fun _ _ _ _ _ _ _ _ _ _ r h => by simp [impl_LocalLevel.l3] at h⟩
  | k + 1 => by
    obtain ⟨ih0, ih1, ih2, ih3, ih4, ih5⟩ := impl_LocalLevel.mono_l k
    refine ⟨?_, ?_, ?_, ?_, ?_, ?_⟩
    · intro y0 y1
      unfold impl_LocalLevel.j0
      repeat' first
      | (with_reducible exact ih0 _ _)
      | (with_reducible exact ih1 _)
      | (with_reducible exact ih2 _ _ _ _ _)
      | (with_reducible exact ih3 _ _ _ _)
      | (with_reducible exact ih4 _ _ _ _ _ _ _)
      | (with_reducible exact ih5 _ _ _ _ _ _ _ _ _ _)
      | (with_reducible exact impl_PlaceValid.mono _ _)
      | (with_reducible exact LeO.refl _)
      | (with_reducible exact LeO.none _)
      | (with_reducible refine LeO.ite ?_ ?_)
      | (with_reducible refine LeO.bind ?_ (fun _ => ?_))
      | exact ih0 _ _
      | exact ih1 _
      | exact ih2 _ _ _ _ _
      | exact ih3 _ _ _ _
      | exact ih4 _ _ _ _ _ _ _
      | exact ih5 _ _ _ _ _ _ _ _ _ _
      | exact impl_PlaceValid.mono _ _
      | exact LeO.none _
      | refine LeO.ite ?_ ?_
      | refine LeO.bind ?_ (fun _ => ?_)
    · intro y0
      unfold impl_LocalLevel.j1
      repeat' first
      | (with_reducible exact ih0 _ _)
      | (with_reducible exact ih1 _)
      | (with_reducible exact ih2 _ _ _ _ _)
      | (with_reducible exact ih3 _ _ _ _)
      | (with_reducible exact ih4 _ _ _ _ _ _ _)
      | (with_reducible exact ih5 _ _ _ _ _ _ _ _ _ _)
      | (with_reducible exact impl_PlaceValid.mono _ _)
      | (with_reducible exact LeO.refl _)
      | (with_reducible exact LeO.none _)
      | (with_reducible refine LeO.ite ?_ ?_)
      | (with_reducible refine LeO.bind ?_ (fun _ => ?_))
      | exact ih0 _ _
      | exact ih1 _
      | exact ih2 _ _ _ _ _
      | exact ih3 _ _ _ _
      | exact ih4 _ _ _ _ _ _ _
      | exact ih5 _ _ _ _ _ _ _ _ _ _
      | exact impl_PlaceValid.mono _ _
      | exact LeO.none _
      | refine LeO.ite ?_ ?_
      | refine LeO.bind ?_ (fun _ => ?_)
    · intro y0 y1 y2 y3 y4
      unfold impl_LocalLevel.l0
      repeat' first
      | (with_reducible exact ih0 _ _)
      | (with_reducible exact ih1 _)
      | (with_reducible exact ih2 _ _ _ _ _)
      | (with_reducible exact ih3 _ _ _ _)
      | (with_reducible exact ih4 _ _ _ _ _ _ _)
      | (with_reducible exact ih5 _ _ _ _ _ _ _ _ _ _)
      | (with_reducible exact impl_PlaceValid.mono _ _)
      | (with_reducible exact LeO.refl _)
      | (with_reducible exact LeO.none _)
      | (with_reducible refine LeO.ite ?_ ?_)
      | (with_reducible refine LeO.bind ?_ (fun _ => ?_))
      | exact ih0 _ _
      | exact ih1 _
      | exact ih2 _ _ _ _ _
      | exact ih3 _ _ _ _
      | exact ih4 _ _ _ _ _ _ _
      | exact ih5 _ _ _ _ _ _ _ _ _ _
      | exact impl_PlaceValid.mono _ _
      | exact LeO.none _
      | refine LeO.ite ?_ ?_
      | refine LeO.bind ?_ (fun _ => ?_)
    · intro y0 y1 y2 y3
      unfold impl_LocalLevel.l1
      repeat' first
      | (with_reducible exact ih0 _ _)
      | (with_reducible exact ih1 _)
      | (with_reducible exact ih2 _ _ _ _ _)
      | (with_reducible exact ih3 _ _ _ _)
      | (with_reducible exact ih4 _ _ _ _ _ _ _)
      | (with_reducible exact ih5 _ _ _ _ _ _ _ _ _ _)
      | (with_reducible exact impl_PlaceValid.mono _ _)
      | (with_reducible exact LeO.refl _)
      | (with_reducible exact LeO.none _)
      | (with_reducible refine LeO.ite ?_ ?_)
      | (with_reducible refine LeO.bind ?_ (fun _ => ?_))
      | exact ih0 _ _
      | exact ih1 _
      | exact ih2 _ _ _ _ _
      | exact ih3 _ _ _ _
      | exact ih4 _ _ _ _ _ _ _
      | exact ih5 _ _ _ _ _ _ _ _ _ _
      | exact impl_PlaceValid.mono _ _
      | exact LeO.none _
      | refine LeO.ite ?_ ?_
      | refine LeO.bind ?_ (fun _ => ?_)
    · intro y0 y1 y2 y3 y4 y5 y6
      unfold impl_LocalLevel.l2
      repeat' first
      | (with_reducible exact ih0 _ _)
      | (with_reducible exact ih1 _)
      | (with_reducible exact ih2 _ _ _ _ _)
      | (with_reducible exact ih3 _ _ _ _)
      | (with_reducible exact ih4 _ _ _ _ _ _ _)
      | (with_reducible exact ih5 _ _ _ _ _ _ _ _ _ _)
      | (with_reducible exact impl_PlaceValid.mono _ _)
      | (with_reducible exact LeO.refl _)
      | (with_reducible exact LeO.none _)
      | (with_reducible refine LeO.ite ?_ ?_)
      | (with_reducible refine LeO.bind ?_ (fun _ => ?_))
      | exact ih0 _ _
      | exact ih1 _
      | exact ih2 _ _ _ _ _
      | exact ih3 _ _ _ _
      | exact ih4 _ _ _ _ _ _ _
      | exact ih5 _ _ _ _ _ _ _ _ _ _
      | exact impl_PlaceValid.mono _ _
      | exact LeO.none _
      | refine LeO.ite ?_ ?_
      | refine LeO.bind ?_ (fun _ => ?_)
    · intro y0 y1 y2 y3 y4 y5 y6 y7 y8 y9
      unfold impl_LocalLevel.l3
      repeat' first
      | (with_reducible exact ih0 _ _)
      | (with_reducible exact ih1 _)
      | (with_reducible exact ih2 _ _ _ _ _)
      | (with_reducible exact ih3 _ _ _ _)
      | (with_reducible exact ih4 _ _ _ _ _ _ _)
      | (with_reducible exact ih5 _ _ _ _ _ _ _ _ _ _)
      | (with_reducible exact impl_PlaceValid.mono _ _)
      | (with_reducible exact LeO.refl _)
      | (with_reducible exact LeO.none _)
      | (with_reducible refine LeO.ite ?_ ?_)
      | (with_reducible refine LeO.bind ?_ (fun _ => ?_))
      | exact ih0 _ _
      | exact ih1 _
      | exact ih2 _ _ _ _ _
      | exact ih3 _ _ _ _
      | exact ih4 _ _ _ _ _ _ _
      | exact ih5 _ _ _ _ _ _ _ _ _ _
      | exact impl_PlaceValid.mono _ _
      | exact LeO.none _
      | refine LeO.ite ?_ ?_
      | refine LeO.bind ?_ (fun _ => ?_)
theorem impl_LocalLevel.mono : ∀ a0 k, LeO (impl_LocalLevel.f k a0) (impl_LocalLevel.f (k + 1) a0) := by
  intro a0 k
  obtain ⟨ih0, ih1, ih2, ih3, ih4, ih5⟩ := impl_LocalLevel.mono_l k
  unfold impl_LocalLevel.f
  repeat' first
      | (with_reducible exact ih0 _ _)
      | (with_reducible exact ih1 _)
      | (with_reducible exact ih2 _ _ _ _ _)
      | (with_reducible exact ih3 _ _ _ _)
      | (with_reducible exact ih4 _ _ _ _ _ _ _)
      | (with_reducible exact ih5 _ _ _ _ _ _ _ _ _ _)
      | (with_reducible exact impl_PlaceValid.mono _ _)
      | (with_reducible exact LeO.refl _)
      | (with_reducible exact LeO.none _)
      | (with_reducible refine LeO.ite ?_ ?_)
      | (with_reducible refine LeO.bind ?_ (fun _ => ?_))
      | exact ih0 _ _
      | exact ih1 _
      | exact ih2 _ _ _ _ _
      | exact ih3 _ _ _ _
      | exact ih4 _ _ _ _ _ _ _
      | exact ih5 _ _ _ _ _ _ _ _ _ _
      | exact impl_PlaceValid.mono _ _
      | exact LeO.none _
      | refine LeO.ite ?_ ?_
      | refine LeO.bind ?_ (fun _ => ?_)
set_option maxHeartbeats 8000000 in
set_option maxRecDepth 100000 in
theorem impl_LocalLevel.calls (k : Nat) (a0 : Int) (r : Int) (w : World) (h : impl_LocalLevel.f k a0 = some r) :
    Calls Try.prog 40 #[.int .i64 a0] w fun e w' => e = .returned (.int .i64 r) ∧ Below w.heap.size w w' := by
  have HB := Aside0.mk (Below.refl w.heap.size w)
  have H : (if a0 = 0 then (impl_LocalLevel.j0 k a0 true) else ((impl_PlaceValid.f k a0).bind fun t117 => (impl_LocalLevel.j0 k a0 (!t117)))) = some r := h
  clear h
  have HC2 := Aside0.mk H
  clear H
  go_enter Try.func40, Try.ntmps40
  go_upto_region 1 with (fail)
  go_cut [17] (fun v17 wc => ∃ (kq : Nat) (x17_1 : Bool), v17 = .bool x17_1 ∧ Aside0 (impl_LocalLevel.j0 kq a0 x17_1 = some r) ∧ Aside0 (kq ≤ k) ∧ Aside0 (Below w.heap.size w wc))
  case first =>
    have H := HC2.out
    clear HC2
    by_cases c3 : a0 = 0
    · rw [if_pos c3] at H
      have c3b0 : (a0 == 0) = true := beq_iff_eq.mpr c3
      have c3b1 : (a0 != 0) = false := bne_eq_false_iff_eq.mpr c3
      clear c3
      (first | rw [c3b0] | (simp only [i64_w, i32_w]; rw [c3b0]) | skip)
      have H' := Aside0.mk H
      clear H
      go_wp2
      go_meet
      case rel => exact ⟨_, (true), (by first | rfl | (simp; done) | (simp [*]; done)), H', ⟨by first | omega | exact Nat.le_refl _⟩, ⟨by repeat (first | (with_reducible first | exact HB.out | apply below_alloc | apply pw_below_drewN | apply below_drew1) | exact HB.out)⟩⟩
    · rw [if_neg c3] at H
      have c3b0 : (a0 == 0) = false := beq_eq_false_iff_ne.mpr c3
      have c3b1 : (a0 != 0) = true := bne_iff_ne.mpr c3
      (first | rw [c3b0] | (simp only [i64_w, i32_w]; rw [c3b0]) | skip)
      replace H := Option.bind_eq_some_iff.mp H
      obtain ⟨t117, A40, H⟩ := H
      replace H : (impl_LocalLevel.j0 k a0 (!t117)) = some r := H
      have A4 := Aside0.mk A40
      clear A40
      have H' := Aside0.mk H
      clear H
      go_wp2_with (first | (go_at_call 54; (with_reducible refine (impl_PlaceValid.calls k a0 t117 _ A4.out).mono ?_); rintro e w' ⟨rfl, ⟨nd, rfl⟩⟩))
      go_meet
      case rel => exact ⟨_, (!t117), (by first | rfl | (simp; done) | (simp [*]; done)), H', ⟨by first | omega | exact Nat.le_refl _⟩, ⟨by repeat (first | (with_reducible first | exact HB.out | apply below_alloc | apply pw_below_drewN | apply below_drew1) | exact HB.out)⟩⟩
  case rest =>
    clear HC2
    try clear p2
    try clear c3
    try clear c3b0
    try clear c3b1
    try clear c4
    obtain ⟨kq, x17_1, rfl, HA, HJ1, HB⟩ := hcut
    cases kq with
    | zero => exact absurd HA.out (by simp [impl_LocalLevel.j0])
    | succ kj1 =>
      have H := HA.out
      clear HA
      simp only [impl_LocalLevel.j0] at H
      by_cases c5 : x17_1 = true
      · subst c5
        have H1 : (some (-1)) = some r := by rw [if_pos rfl] at H; exact H
        clear H
        have H := H1
        clear H1
        obtain rfl := Option.some.inj H
        go_wp2
        go_ret
        exact ⟨by first | rfl | (simp [errW_none, errW_some] <;> rfl) | (simp [*, errW_none, errW_some] <;> rfl), by repeat (first | (with_reducible first | exact HB.out | apply below_alloc | apply pw_below_drewN | apply below_drew1) | exact HB.out)⟩
      · replace c5 := Bool.eq_false_iff.mpr c5
        subst c5
        have H1 : (if a0 = 2 then (impl_LocalLevel.j1 kj1 16) else (impl_LocalLevel.j1 kj1 a0)) = some r := by rw [if_neg (show ¬ (false = true) by decide)] at H; exact H
        clear H
        have H := H1
        clear H1
        have HC6 := Aside0.mk H
        clear H
        go_upto_if 20 with (fail)
        go_cut [3] (fun v3 wc => ∃ (kq : Nat) (x3_5 : Int), v3 = .int .i64 x3_5 ∧ Aside0 (impl_LocalLevel.j1 kq x3_5 = some r) ∧ Aside0 (kq ≤ kj1) ∧ Aside0 (Below w.heap.size w wc))
        case first =>
          have H := HC6.out
          clear HC6
          by_cases c7 : a0 = 2
          · rw [if_pos c7] at H
            have c7b0 : (a0 == 2) = true := beq_iff_eq.mpr c7
            have c7b1 : (a0 != 2) = false := bne_eq_false_iff_eq.mpr c7
            clear c7
            (first | rw [c7b0] | (simp only [i64_w, i32_w]; rw [c7b0]) | skip)
            have H' := Aside0.mk H
            clear H
            go_wp2
            go_meet
            case rel => exact ⟨_, (16), (by first | rfl | (simp; done) | (simp [*]; done)), H', ⟨by have := HJ1.out; first | omega | exact Nat.le_refl _⟩, ⟨by repeat (first | (with_reducible first | exact HB.out | apply below_alloc | apply pw_below_drewN | apply below_drew1) | exact HB.out)⟩⟩
          · rw [if_neg c7] at H
            have c7b0 : (a0 == 2) = false := beq_eq_false_iff_ne.mpr c7
            have c7b1 : (a0 != 2) = true := bne_iff_ne.mpr c7
            (first | rw [c7b0] | (simp only [i64_w, i32_w]; rw [c7b0]) | skip)
            have H' := Aside0.mk H
            clear H
            go_wp2
            go_meet
            case rel => exact ⟨_, (a0), (by first | rfl | (simp; done) | (simp [*]; done)), H', ⟨by have := HJ1.out; first | omega | exact Nat.le_refl _⟩, ⟨by repeat (first | (with_reducible first | exact HB.out | apply below_alloc | apply pw_below_drewN | apply below_drew1) | exact HB.out)⟩⟩
        case rest =>
          clear HC6
          try clear p2
          try clear c3
          try clear c3b0
          try clear c3b1
          try clear c4
          try clear c5
          try clear c7
          try clear c7b0
          try clear c7b1
          try clear p2
          obtain ⟨kq, x3_5, rfl, HA, HJ5, HB⟩ := hcut
          cases kq with
          | zero => exact absurd HA.out (by simp [impl_LocalLevel.j1])
          | succ kj5 =>
            have H := HA.out
            clear HA
            simp only [impl_LocalLevel.j1] at H
            by_cases c8 : 0 ≤ x3_5
            · rw [if_pos c8] at H
              have c8b0 := eq_true c8
              have c8b1 : decide (0 ≤ x3_5) = true := decide_eq_true c8
              clear c8
              by_cases c9 : (x3_5 : Int).toNat ≤ 281474976710656
              · rw [if_pos c9] at H
                have c9b0 := eq_true c9
                have c9b1 : decide ((x3_5 : Int).toNat ≤ 281474976710656) = true := decide_eq_true c9
                clear c9
                obtain ⟨y118, hy118⟩ : ∃ y_ : List Bool, y_ = (List.replicate (x3_5 : Int).toNat false) := ⟨_, rfl⟩
                replace H : (impl_LocalLevel.l0 kj5 x3_5 y118 (List.replicate (x3_5 : Int).toNat false) x3_5 0) = some r := by first | (rw [hy118]; with_reducible exact H) | (have H2_ := (Option.bind_some _ _).symm.trans H; rw [hy118]; with_reducible exact H2_) | (have H2_ := (Option.bind_some _ _).symm.trans H; with_reducible exact H2_) | with_reducible exact H | (rw [hy118]; exact H) | exact H
                have Ny118 := Aside0.mk hy118
                clear hy118
                obtain ⟨y121, hy121⟩ : ∃ y_ : List Bool, y_ = (List.replicate (x3_5 : Int).toNat false) := ⟨_, rfl⟩
                replace H : (impl_LocalLevel.l0 kj5 x3_5 y118 y121 x3_5 0) = some r := by first | (rw [hy121]; with_reducible exact H) | (have H2_ := (Option.bind_some _ _).symm.trans H; rw [hy121]; with_reducible exact H2_) | (have H2_ := (Option.bind_some _ _).symm.trans H; with_reducible exact H2_) | with_reducible exact H | (rw [hy121]; exact H) | exact H
                have Ny121 := Aside0.mk hy121
                clear hy121
                have H' := Aside0.mk H
                clear H
                try go_wp2
                have n0_ := Aside0.mk (below_drew1 HB.out)
                clear HB
                have HB := n0_
                clear n0_
                refine start_ (n := 6) (S := fun w' => True) (ds := []) #[false, false, false, false, false, false] (by kernel_rfl) rfl rfl trivial (fun hHeld => ?_)
                generalize wc.drew = w10 at HB hHeld ⊢
                refine pure_ (i := 0) (N := some 21) (v := ?_) (a' := ?_) #[true, false, false, false, false, false] rfl rfl (by kernel_rfl) (fun _ _ _ h => h) (Or.inl ⟨by rfl, ?_⟩) ?_ ?_
                rotate_left
                · intro w'
                  go_simp
                  with_reducible rfl
                rotate_left
                · simp only [Act.put, List.setIfInBounds_toArray, List.set_cons_zero, List.set_cons_succ, i64_w, i32_w]
                  rfl
                refine pure_ (i := 2) (N := some 23) (v := ?_) (a' := ?_) #[true, false, true, false, false, false] rfl rfl (by kernel_rfl) (fun _ _ _ h => h) (Or.inl ⟨by rfl, ?_⟩) ?_ ?_
                rotate_left
                · intro w'
                  go_simp
                  with_reducible rfl
                rotate_left
                · simp only [Act.put, List.setIfInBounds_toArray, List.set_cons_zero, List.set_cons_succ, i64_w, i32_w]
                  rfl
                refine join_ (σ := Value × Value) 1 #[true, true, true, true, true, false] (fun s_ => [(22, s_.1), (24, s_.2), (4, s_.1)]) (fun s_ w' => (Kd.R Kd.bool 4 w' w.heap.size (fun k_ => some k_ ≠ (s_.2 : Value).ownBlock) s_.1 y118) ∧ (Kd.R Kd.bool 4 w' w.heap.size (fun k_ => some k_ ≠ (s_.1 : Value).ownBlock) s_.2 y121) ∧ (Below w.heap.size w w')) ?_ ?_
                rotate_left
                · intro hCont
                  refine two_ (i := 1) (j := 3) (Ni := some 22) (Nj := some 24) #[true, true, true, false, false, false] #[true, false, true, true, false, false] rfl rfl rfl rfl (by kernel_rfl) (by decide) (by decide) (fun K hK => ?_) (fun K hK => ?_)
                  · skip
                    refine Kd.R_make_step Kd.bool _ 4 (by rfl) (N := 22) rfl 52 _ _ rfl x3_5 rfl rfl Try.underlying52 (.bool false) 1 info4 rfl (by decide) (by omega) false (ok := fun _ => True) (okp := fun _ => True) rfl (fun _ hk => hk) trivial (of_decide_eq_true (by first | (with_reducible assumption) | assumption)) (Nat.le_trans (Nat.mul_le_mul_right _ (of_decide_eq_true (by first | (with_reducible assumption) | assumption) : x3_5.toNat ≤ 281474976710656)) (by omega)) (Below.refl _ _) (Nat.le_refl _) ?_
                    intro v119 w11 ho12 hb hg_ hnew_
                    clear hg_ hnew_
                    (first | rw [← Ny118.out] at ho12 | (simp only [Int.reduceToNat] at ho12; rw [← Ny118.out] at ho12))
                    have n0_ := Aside0.mk (Kd.R_lower ho12 (below_size (by repeat (first | (with_reducible first | exact HB.out | apply below_alloc | apply pw_below_drewN | apply below_drew1) | exact HB.out))))
                    have n1_ := Aside0.mk (below_step (by repeat (first | (with_reducible first | exact HB.out | apply below_alloc | apply pw_below_drewN | apply below_drew1) | exact HB.out)) hb)
                    clear HB
                    have HO120 := n0_
                    have HB := n1_
                    clear n0_ n1_
                    clear hb ho12
                    refine hK.out _ _ trivial (fun hHeld => ?_)
                    clear hK K
                    refine norm_ (a' := ?_) ?_ ?_
                    rotate_left
                    · show Act.put _ (some 22) _ = _
                      simp only [Act.put, List.setIfInBounds_toArray, List.set_cons_zero, List.set_cons_succ, i64_w, i32_w]
                      rfl
                    refine pure_ (i := 4) (N := some 4) (v := ?_) (a' := ?_) #[true, true, true, false, true, false] rfl rfl (by kernel_rfl) (fun _ _ _ h => h) (Or.inl ⟨by rfl, ?_⟩) ?_ ?_
                    rotate_left
                    · intro w'
                      go_simp
                      with_reducible rfl
                    rotate_left
                    · simp only [Act.put, List.setIfInBounds_toArray, List.set_cons_zero, List.set_cons_succ, i64_w, i32_w]
                      rfl
                    refine one_ (i := 3) (N := some 24) #[true, true, true, true, true, false] rfl rfl (by kernel_rfl) (by decide) (fun K hK => ?_)
                    refine Kd.R_make_step Kd.bool _ 4 (by rfl) (N := 24) rfl 52 _ _ rfl x3_5 rfl rfl Try.underlying52 (.bool false) 1 info4 rfl (by decide) (by omega) false (ok := fun _ => True) (okp := fun _ => True) rfl (fun _ hk => hk) trivial (of_decide_eq_true (by first | (with_reducible assumption) | assumption)) (Nat.le_trans (Nat.mul_le_mul_right _ (of_decide_eq_true (by first | (with_reducible assumption) | assumption) : x3_5.toNat ≤ 281474976710656)) (by omega)) (Below.refl _ _) (Nat.le_refl _) ?_
                    intro v122 w13 ho14 hb hg_ hnew_
                    clear hg_ hnew_
                    (first | rw [← Ny121.out] at ho14 | (simp only [Int.reduceToNat] at ho14; rw [← Ny121.out] at ho14))
                    have n0_ := Aside0.mk (Kd.R_elder' (by (with_reducible repeat (first | apply Kd.R_alloc | apply Kd.R_drewN | apply Kd.R_drew)); exact HO120.out) (Kd.R_base ho14) hb)
                    have n1_ := Aside0.mk (Kd.R_lower (Kd.R_new' ho14 (Kd.R_lt (by (with_reducible repeat (first | apply Kd.R_alloc | apply Kd.R_drewN | apply Kd.R_drew)); exact HO120.out))) (below_size (by repeat (first | (with_reducible first | exact HB.out | apply below_alloc | apply pw_below_drewN | apply below_drew1) | exact HB.out))))
                    have n2_ := Aside0.mk (below_step (by repeat (first | (with_reducible first | exact HB.out | apply below_alloc | apply pw_below_drewN | apply below_drew1) | exact HB.out)) hb)
                    clear HO120
                    clear HB
                    have HO120 := n0_
                    have HO123 := n1_
                    have HB := n2_
                    clear n0_ n1_ n2_
                    clear hb ho14
                    refine hK.out _ _ trivial (fun hHeld => ?_)
                    clear hK K
                    refine norm_ (a' := ?_) ?_ ?_
                    rotate_left
                    · show Act.put _ (some 24) _ = _
                      simp only [Act.put, List.setIfInBounds_toArray, List.set_cons_zero, List.set_cons_succ, i64_w, i32_w]
                      rfl
                    exact norm_ (by simp only [putAll, Act.put, List.setIfInBounds_toArray, List.set_cons_zero, List.set_cons_succ]) (hCont (v119, v122) _ ⟨(by (with_reducible repeat (first | apply Kd.R_alloc | apply Kd.R_drewN | apply Kd.R_drew)); exact Kd.R_mono HO120.out (fun _ hk => hk.2)), (by (with_reducible repeat (first | apply Kd.R_alloc | apply Kd.R_drewN | apply Kd.R_drew)); exact Kd.R_mono HO123.out (fun _ hk => hk.2)), (by repeat (first | (with_reducible first | exact HB.out | apply below_alloc | apply pw_below_drewN | apply below_drew1) | exact HB.out))⟩)
                  · skip
                    refine Kd.R_make_step Kd.bool _ 4 (by rfl) (N := 24) rfl 52 _ _ rfl x3_5 rfl rfl Try.underlying52 (.bool false) 1 info4 rfl (by decide) (by omega) false (ok := fun _ => True) (okp := fun _ => True) rfl (fun _ hk => hk) trivial (of_decide_eq_true (by first | (with_reducible assumption) | assumption)) (Nat.le_trans (Nat.mul_le_mul_right _ (of_decide_eq_true (by first | (with_reducible assumption) | assumption) : x3_5.toNat ≤ 281474976710656)) (by omega)) (Below.refl _ _) (Nat.le_refl _) ?_
                    intro v122 w11 ho12 hb hg_ hnew_
                    clear hg_ hnew_
                    (first | rw [← Ny121.out] at ho12 | (simp only [Int.reduceToNat] at ho12; rw [← Ny121.out] at ho12))
                    have n0_ := Aside0.mk (Kd.R_lower ho12 (below_size (by repeat (first | (with_reducible first | exact HB.out | apply below_alloc | apply pw_below_drewN | apply below_drew1) | exact HB.out))))
                    have n1_ := Aside0.mk (below_step (by repeat (first | (with_reducible first | exact HB.out | apply below_alloc | apply pw_below_drewN | apply below_drew1) | exact HB.out)) hb)
                    clear HB
                    have HO123 := n0_
                    have HB := n1_
                    clear n0_ n1_
                    clear hb ho12
                    refine hK.out _ _ trivial (fun hHeld => ?_)
                    clear hK K
                    refine norm_ (a' := ?_) ?_ ?_
                    rotate_left
                    · show Act.put _ (some 24) _ = _
                      simp only [Act.put, List.setIfInBounds_toArray, List.set_cons_zero, List.set_cons_succ, i64_w, i32_w]
                      rfl
                    refine one_ (i := 1) (N := some 22) #[true, true, true, true, false, false] rfl rfl (by kernel_rfl) (by decide) (fun K hK => ?_)
                    refine Kd.R_make_step Kd.bool _ 4 (by rfl) (N := 22) rfl 52 _ _ rfl x3_5 rfl rfl Try.underlying52 (.bool false) 1 info4 rfl (by decide) (by omega) false (ok := fun _ => True) (okp := fun _ => True) rfl (fun _ hk => hk) trivial (of_decide_eq_true (by first | (with_reducible assumption) | assumption)) (Nat.le_trans (Nat.mul_le_mul_right _ (of_decide_eq_true (by first | (with_reducible assumption) | assumption) : x3_5.toNat ≤ 281474976710656)) (by omega)) (Below.refl _ _) (Nat.le_refl _) ?_
                    intro v119 w13 ho14 hb hg_ hnew_
                    clear hg_ hnew_
                    (first | rw [← Ny118.out] at ho14 | (simp only [Int.reduceToNat] at ho14; rw [← Ny118.out] at ho14))
                    have n0_ := Aside0.mk (Kd.R_elder' (by (with_reducible repeat (first | apply Kd.R_alloc | apply Kd.R_drewN | apply Kd.R_drew)); exact HO123.out) (Kd.R_base ho14) hb)
                    have n1_ := Aside0.mk (Kd.R_lower (Kd.R_new' ho14 (Kd.R_lt (by (with_reducible repeat (first | apply Kd.R_alloc | apply Kd.R_drewN | apply Kd.R_drew)); exact HO123.out))) (below_size (by repeat (first | (with_reducible first | exact HB.out | apply below_alloc | apply pw_below_drewN | apply below_drew1) | exact HB.out))))
                    have n2_ := Aside0.mk (below_step (by repeat (first | (with_reducible first | exact HB.out | apply below_alloc | apply pw_below_drewN | apply below_drew1) | exact HB.out)) hb)
                    clear HO123
                    clear HB
                    have HO123 := n0_
                    have HO120 := n1_
                    have HB := n2_
                    clear n0_ n1_ n2_
                    clear hb ho14
                    refine hK.out _ _ trivial (fun hHeld => ?_)
                    clear hK K
                    refine norm_ (a' := ?_) ?_ ?_
                    rotate_left
                    · show Act.put _ (some 22) _ = _
                      simp only [Act.put, List.setIfInBounds_toArray, List.set_cons_zero, List.set_cons_succ, i64_w, i32_w]
                      rfl
                    refine pure_ (i := 4) (N := some 4) (v := ?_) (a' := ?_) #[true, true, true, true, true, false] rfl rfl (by kernel_rfl) (fun _ _ _ h => h) (Or.inl ⟨by rfl, ?_⟩) ?_ ?_
                    rotate_left
                    · intro w'
                      go_simp
                      with_reducible rfl
                    rotate_left
                    · simp only [Act.put, List.setIfInBounds_toArray, List.set_cons_zero, List.set_cons_succ, i64_w, i32_w]
                      rfl
                    exact norm_ (by simp only [putAll, Act.put, List.setIfInBounds_toArray, List.set_cons_zero, List.set_cons_succ]) (hCont (v119, v122) _ ⟨(by (with_reducible repeat (first | apply Kd.R_alloc | apply Kd.R_drewN | apply Kd.R_drew)); exact Kd.R_mono HO120.out (fun _ hk => hk.2)), (by (with_reducible repeat (first | apply Kd.R_alloc | apply Kd.R_drewN | apply Kd.R_drew)); exact Kd.R_mono HO123.out (fun _ hk => hk.2)), (by repeat (first | (with_reducible first | exact HB.out | apply below_alloc | apply pw_below_drewN | apply below_drew1) | exact HB.out))⟩)
                rintro ⟨v119, v122⟩ w15 ⟨h0_, h1_, h2_⟩
                have n0_ : Aside0 (Kd.R Kd.bool 4 w15 w.heap.size (fun k_ => some k_ ≠ (v122 : Value).ownBlock) v119 y118) := ⟨h0_⟩
                have n1_ : Aside0 (Kd.R Kd.bool 4 w15 w.heap.size (fun k_ => some k_ ≠ (v119 : Value).ownBlock) v122 y121) := ⟨h1_⟩
                have n2_ : Aside0 (Below w.heap.size w w15) := ⟨h2_⟩
                clear HB
                clear h0_ h1_ h2_
                have HO120 := n0_
                have HO123 := n1_
                have HB := n2_
                clear n0_ n1_ n2_
                have hHeld := trivial
                refine norm_ (a' := ?_) ?_ ?_
                rotate_left
                · simp only [putAll, Act.put, List.setIfInBounds_toArray, List.set_cons_zero, List.set_cons_succ]
                  rfl
                refine pure_ (i := 5) (N := some 5) (v := ?_) (a' := ?_) #[true, true, true, true, true, true] rfl rfl (by kernel_rfl) (fun _ _ _ h => h) (Or.inl ⟨by rfl, ?_⟩) ?_ ?_
                rotate_left
                · intro w'
                  go_simp
                  with_reducible rfl
                rotate_left
                · simp only [Act.put, List.setIfInBounds_toArray, List.set_cons_zero, List.set_cons_succ, i64_w, i32_w]
                  rfl
                refine done_ (by kernel_rfl) ?_
                try go_wp2
                go_loopg [26] kj5 (fun kq v26 w' => ∃ (x4_3 : List Bool) (x26_3 : Int), v26 = .int .i64 x26_3 ∧ Aside0 (impl_LocalLevel.l0 kq x3_5 x4_3 y121 x3_5 x26_3 = some r) ∧ Aside0 (kq ≤ kj5) ∧ Aside0 (Kd.R Kd.bool 4 w' w.heap.size (fun k_ => some k_ ≠ (v122 : Value).ownBlock) v119 x4_3) ∧ Aside0 (Kd.R Kd.bool 4 w' w.heap.size (fun k_ => some k_ ≠ (v119 : Value).ownBlock) v122 y121) ∧ Aside0 (Below w.heap.size w w'))
                case atStart => exact ⟨(y118), (0), (by first | rfl | (simp; done) | (simp [*]; done)), H', ⟨Nat.le_refl _⟩, ⟨by (with_reducible repeat (first | apply Kd.R_alloc | apply Kd.R_drewN | apply Kd.R_drew)); exact HO120.out⟩, ⟨by (with_reducible repeat (first | apply Kd.R_alloc | apply Kd.R_drewN | apply Kd.R_drew)); exact HO123.out⟩, ⟨by repeat (first | (with_reducible first | exact HB.out | apply below_alloc | apply pw_below_drewN | apply below_drew1) | exact HB.out)⟩⟩
                case round =>
                  clear H'
                  try clear p2
                  try clear c3
                  try clear c3b0
                  try clear c3b1
                  try clear c4
                  try clear c5
                  try clear c7
                  try clear c7b0
                  try clear c7b1
                  try clear c8
                  try clear c8b0
                  try clear c8b1
                  try clear c9
                  try clear c9b0
                  try clear c9b1
                  try clear p2
                  obtain ⟨x4_3, x26_3, rfl, HA, HK3, HO_4, HO_5, HB⟩ := hrel
                  cases gk with
                  | zero => exact absurd HA.out (by simp [impl_LocalLevel.l0])
                  | succ k3 =>
                    have H := HA.out
                    clear HA
                    simp only [impl_LocalLevel.l0] at H
                    by_cases c16 : x26_3 < x3_5
                    · rw [if_pos c16] at H
                      have c16b0 : decide (x26_3 < x3_5) = true := decide_eq_true c16
                      clear c16
                      by_cases c17 : x3_5 = 0
                      · rw [if_pos c17] at H
                        exact absurd H (by simp)
                      · rw [if_neg c17] at H
                        have c17b0 : (x3_5 == 0) = false := beq_eq_false_iff_ne.mpr c17
                        have c17b1 : (x3_5 != 0) = true := bne_iff_ne.mpr c17
                        obtain ⟨ji18, hji18⟩ : ∃ j_ : Int, (Int.tmod (wrap64 (x26_3 * x26_3)) x3_5) = j_ := ⟨_, rfl⟩
                        replace H : (if 0 ≤ (ji18) then (if (ji18) < (x4_3.length : Int) then (impl_LocalLevel.l0 k3 x3_5 (x4_3.set ((ji18) : Int).toNat true) y121 x3_5 (wrap64 (x26_3 + 1))) else (none)) else (none)) = some r := by first | (rw [hji18] at H; exact H) | (simp only [hji18] at H ⊢; exact H)
                        by_cases c19 : 0 ≤ (ji18)
                        · rw [if_pos c19] at H
                          have c19b0 : decide (0 ≤ (ji18)) = true := decide_eq_true c19
                          clear c19
                          by_cases c20 : (ji18) < (x4_3.length : Int)
                          · rw [if_pos c20] at H
                            have c20b0 : decide ((ji18) < (x4_3.length : Int)) = true := decide_eq_true c20
                            clear c20
                            obtain ⟨y124, hy124⟩ : ∃ y_ : List Bool, y_ = (x4_3.set ((ji18) : Int).toNat true) := ⟨_, rfl⟩
                            replace H : (impl_LocalLevel.l0 k3 x3_5 y124 y121 x3_5 (wrap64 (x26_3 + 1))) = some r := by first | (rw [hy124]; with_reducible exact H) | (have H2_ := (Option.bind_some _ _).symm.trans H; rw [hy124]; with_reducible exact H2_) | (have H2_ := (Option.bind_some _ _).symm.trans H; with_reducible exact H2_) | with_reducible exact H | (rw [hy124]; exact H) | exact H
                            have Ny124 := Aside0.mk hy124
                            clear hy124
                            have H' := Aside0.mk H
                            clear H
                            have p21 : 0 ≤ ((ji18) : Int) := of_decide_eq_true (by first | (with_reducible assumption) | assumption)
                            have q21 : ((ji18) : Int) < ((x4_3.length : Int) : Int) := of_decide_eq_true (by first | (with_reducible assumption) | assumption)
                            obtain ⟨go21, co21, eo21, gb21, gl21, cl21, HG21⟩ := Kd.R_form HO_4.out (by omega)
                            (first | cases eo21 | (injection eo21 with ea_ en_ ec_; (first | subst ea_ | (injection ea_ with ea_; subst ea_)); subst ec_; clear en_))
                            have GB21 := Aside0.mk gb21
                            have GG21 := Aside0.mk HG21
                            clear gb21 gl21 HG21
                            obtain ⟨hx21_0, hf21_0⟩ := Kd.R_celln false HO_4.out ((ji18) : Int) p21 q21
                            replace p21 := eq_true p21
                            replace q21 := eq_true q21
                            have HP22 := Kd.R_putg HO_4.out ((ji18) : Int) true
                            go_wp2_with (first | ((with_reducible refine gate_store (t := 4) (p := 35) rfl ?_); refine store_event (t := 4) (p := 35) (v := ?vo_w23) (w1 := (wr.setCell ⟨go21, ((ji18) : Int).toNat, none⟩ (.bool true))) ?hg ?ho ?hn ?hr ?_; (case ho => rfl); (case hg => rfl); (case hn => rfl); (case hr => first | (go_simp; done) | (go_simp; rfl)); intro w23 hw; have hg : wr.grownBy w23 (some go21) := (by rw [hw]; exact HP22.2); have hp_ : Kd.R Kd.bool 4 w23 w.heap.size (fun k_ => some k_ ≠ (v122 : Value).ownBlock) (.slice (some ⟨go21, 0, none⟩) x4_3.length co21) y124 := (by rw [hw, Ny124.out]; exact HP22.1); clear HP22; have n0_ := Aside0.mk (hp_); have n1_ := Aside0.mk (Kd.R_after (v := (.slice (some ⟨go21, 0, none⟩) x4_3.length co21)) (v1 := (.slice (some ⟨go21, 0, none⟩) x4_3.length co21)) (ok := (fun _ => True)) (by (with_reducible repeat (first | apply Kd.R_alloc | apply Kd.R_drewN | apply Kd.R_drew)); exact Kd.R_mono HO_5.out (fun _ hk => ⟨trivial, hk⟩)) hg (.inl rfl)); have n2_ := Aside0.mk ((by rw [hw]; exact below_set (HB.out) GB21.out : Below w.heap.size w w23)); clear HO_4; clear HO_5; clear HB; have HO_4 := n0_; have HO_5 := n1_; have HB := n2_; clear n0_ n1_ n2_; clear hg hw hp_))
                            go_roundg k3
                            case measure => have := HJ1.out; have := HJ5.out; have := HK3.out; omega
                            case rel => exact ⟨(y124), (wrap64 (x26_3 + 1)), (by first | rfl | (simp; done) | (simp [*]; done)), H', ⟨by have := HJ1.out; have := HJ5.out; have := HK3.out; omega⟩, ⟨by (with_reducible repeat (first | apply Kd.R_alloc | apply Kd.R_drewN | apply Kd.R_drew)); exact HO_4.out⟩, ⟨by (with_reducible repeat (first | apply Kd.R_alloc | apply Kd.R_drewN | apply Kd.R_drew)); exact Kd.R_mono HO_5.out (fun _ hk => hk.2)⟩, ⟨by repeat (first | (with_reducible first | exact HB.out | apply below_alloc | apply pw_below_drewN | apply below_drew1) | exact HB.out)⟩⟩
                          · rw [if_neg c20] at H
                            exact absurd H (by simp)
                        · rw [if_neg c19] at H
                          exact absurd H (by simp)
                    · rw [if_neg c16] at H
                      have c16b0 : decide (x26_3 < x3_5) = false := decide_eq_false c16
                      clear c16
                      by_cases c24 : 0 < (y121.length : Int)
                      · rw [if_pos c24] at H
                        have c24b0 : decide (0 < (y121.length : Int)) = true := decide_eq_true c24
                        have c24b1 : decide (0 < y121.length) = true := decide_eq_true (by omega)
                        clear c24
                        obtain ⟨y125, hy125⟩ : ∃ y_ : List Bool, y_ = (y121.set (0 : Int).toNat true) := ⟨_, rfl⟩
                        replace H : (impl_LocalLevel.l1 k3 x3_5 x4_3 y125 1) = some r := by first | (rw [hy125]; with_reducible exact H) | (have H2_ := (Option.bind_some _ _).symm.trans H; rw [hy125]; with_reducible exact H2_) | (have H2_ := (Option.bind_some _ _).symm.trans H; with_reducible exact H2_) | with_reducible exact H | (rw [hy125]; exact H) | exact H
                        have Ny125 := Aside0.mk hy125
                        clear hy125
                        have H' := Aside0.mk H
                        clear H
                        have p25 : 0 ≤ (0 : Int) := (by omega)
                        have q25 : (0 : Int) < ((y121.length : Int) : Int) := of_decide_eq_true (by first | (with_reducible assumption) | assumption)
                        have qi25 : (0 < y121.length) = True := eq_true (by omega)
                        obtain ⟨go25, co25, eo25, gb25, gl25, cl25, HG25⟩ := Kd.R_form HO_5.out (by omega)
                        (first | cases eo25 | (injection eo25 with ea_ en_ ec_; (first | subst ea_ | (injection ea_ with ea_; subst ea_)); subst ec_; clear en_))
                        have GB25 := Aside0.mk gb25
                        have GG25 := Aside0.mk HG25
                        clear gb25 gl25 HG25
                        obtain ⟨hx25_0, hf25_0⟩ := Kd.R_celln false HO_5.out (0 : Int) p25 q25
                        (try rw [show ((0 : Int)).toNat = 0 from rfl] at hx25_0)
                        (try simp only [Nat.reduceMul, Nat.zero_mul, Nat.zero_add, Nat.reduceAdd] at hx25_0)
                        (try rw [show ((0 : Int)).toNat = 0 from rfl] at hf25_0)
                        (try simp only [Nat.reduceMul, Nat.zero_mul, Nat.zero_add, Nat.reduceAdd] at hf25_0)
                        replace p25 := eq_true p25
                        replace q25 := eq_true q25
                        have HP26 := Kd.R_putg HO_5.out (0 : Int) true
                        go_wp2_with (first | ((with_reducible refine gate_store (t := 4) (p := 38) rfl ?_); refine store_event (t := 4) (p := 38) (v := ?vo_w27) (w1 := (wr.setCell ⟨go25, (0 : Int).toNat, none⟩ (.bool true))) ?hg ?ho ?hn ?hr ?_; (case ho => rfl); (case hg => rfl); (case hn => rfl); (case hr => first | (go_simp; done) | (go_simp; rfl)); intro w27 hw; have hg : wr.grownBy w27 (some go25) := (by rw [hw]; exact HP26.2); have hp_ : Kd.R Kd.bool 4 w27 w.heap.size (fun k_ => some k_ ≠ (v119 : Value).ownBlock) (.slice (some ⟨go25, 0, none⟩) y121.length co25) y125 := (by rw [hw, Ny125.out]; exact HP26.1); clear HP26; have n0_ := Aside0.mk (Kd.R_after (v := (.slice (some ⟨go25, 0, none⟩) y121.length co25)) (v1 := (.slice (some ⟨go25, 0, none⟩) y121.length co25)) (ok := (fun _ => True)) (by (with_reducible repeat (first | apply Kd.R_alloc | apply Kd.R_drewN | apply Kd.R_drew)); exact Kd.R_mono HO_4.out (fun _ hk => ⟨trivial, hk⟩)) hg (.inl rfl)); have n1_ := Aside0.mk (hp_); have n2_ := Aside0.mk ((by rw [hw]; exact below_set (HB.out) GB25.out : Below w.heap.size w w27)); clear HO_4; clear HO_5; clear HB; have HO_4 := n0_; have HO_5 := n1_; have HB := n2_; clear n0_ n1_ n2_; clear hg hw hp_))
                        go_loopg [5, 7] k3 (fun kq v5 v7 w' => ∃ (x4_4 : List Bool) (x5_4 : List Bool) (x7_4 : Int), v7 = .int .i64 x7_4 ∧ Aside0 (impl_LocalLevel.l1 kq x3_5 x4_4 x5_4 x7_4 = some r) ∧ Aside0 (kq ≤ k3) ∧ Aside0 (Kd.R Kd.bool 4 w' w.heap.size (fun k_ => some k_ ≠ (v5 : Value).ownBlock) v119 x4_4) ∧ Aside0 (Kd.R Kd.bool 4 w' w.heap.size (fun k_ => some k_ ≠ (v119 : Value).ownBlock) v5 x5_4) ∧ Aside0 (Below w.heap.size w w'))
                        case atStart => exact ⟨(x4_3), (y125), (1), (by first | rfl | (simp; done) | (simp [*]; done)), H', ⟨Nat.le_refl _⟩, ⟨by (with_reducible repeat (first | apply Kd.R_alloc | apply Kd.R_drewN | apply Kd.R_drew)); exact Kd.R_mono HO_4.out (fun _ hk => hk.2)⟩, ⟨by (with_reducible repeat (first | apply Kd.R_alloc | apply Kd.R_drewN | apply Kd.R_drew)); exact HO_5.out⟩, ⟨by repeat (first | (with_reducible first | exact HB.out | apply below_alloc | apply pw_below_drewN | apply below_drew1) | exact HB.out)⟩⟩
                        case round =>
                          clear H'
                          try clear c1
                          try clear c2
                          try clear p2
                          try clear q2
                          try clear hx2
                          try clear qi2
                          try clear hf2
                          try clear c3
                          try clear c3b0
                          try clear c3b1
                          try clear c4
                          try clear c5
                          try clear p6
                          try clear c7
                          try clear c7b0
                          try clear c7b1
                          try clear c8
                          try clear c8b0
                          try clear c8b1
                          try clear c9
                          try clear c9b0
                          try clear c9b1
                          try clear c16
                          try clear c16b0
                          try clear c17
                          try clear c17b0
                          try clear c17b1
                          try clear c19
                          try clear c19b0
                          try clear c20
                          try clear c20b0
                          try clear p21
                          try clear q21
                          try clear hx21
                          try clear hf21
                          try clear c24
                          try clear c24b0
                          try clear c24b1
                          try clear p25
                          try clear q25
                          try clear hx25
                          try clear qi25
                          try clear hf25
                          try clear hx21_0
                          try clear hx25_0
                          try clear p2
                          try clear p21
                          try clear p25
                          try clear q21
                          try clear q25
                          obtain ⟨x4_4, x5_4, x7_4, rfl, HA, HK4, HO_4, HO_5, HB⟩ := hrel
                          cases gk with
                          | zero => exact absurd HA.out (by simp [impl_LocalLevel.l1])
                          | succ k4 =>
                            have H := HA.out
                            clear HA
                            simp only [impl_LocalLevel.l1] at H
                            by_cases c28 : 0 ≤ x3_5
                            · rw [if_pos c28] at H
                              have c28b0 := eq_true c28
                              have c28b1 : decide (0 ≤ x3_5) = true := decide_eq_true c28
                              clear c28
                              by_cases c29 : (x3_5 : Int).toNat ≤ 281474976710656
                              · rw [if_pos c29] at H
                                have c29b0 := eq_true c29
                                have c29b1 : decide ((x3_5 : Int).toNat ≤ 281474976710656) = true := decide_eq_true c29
                                clear c29
                                obtain ⟨y126, hy126⟩ : ∃ y_ : List Bool, y_ = (List.replicate (x3_5 : Int).toNat false) := ⟨_, rfl⟩
                                replace H : (impl_LocalLevel.l2 k4 x3_5 x4_4 x5_4 x7_4 y126 x3_5 0) = some r := by first | (rw [hy126]; with_reducible exact H) | (have H2_ := (Option.bind_some _ _).symm.trans H; rw [hy126]; with_reducible exact H2_) | (have H2_ := (Option.bind_some _ _).symm.trans H; with_reducible exact H2_) | with_reducible exact H | (rw [hy126]; exact H) | exact H
                                have Ny126 := Aside0.mk hy126
                                clear hy126
                                have H' := Aside0.mk H
                                clear H
                                go_wp2_with (first | ((with_reducible refine gate_dst (N := 42) rfl ?_); refine Kd.R_make Kd.bool _ 4 rfl (N := 42) rfl 52 _ _ rfl x3_5 rfl rfl Try.underlying52 (.bool false) 1 info4 rfl (by decide) (by omega) false (ok := fun _ => True) (okp := fun _ => True) rfl (fun _ hk => hk) trivial (of_decide_eq_true (by first | (with_reducible assumption) | assumption)) (Nat.le_trans (Nat.mul_le_mul_right _ (of_decide_eq_true (by first | (with_reducible assumption) | assumption) : x3_5.toNat ≤ 281474976710656)) (by omega)) (Below.refl _ _) (Nat.le_refl _) ?_; intro v127 w30 ho31 hb hg_ hnew_; clear hg_ hnew_; (first | rw [← Ny126.out] at ho31 | (simp only [Int.reduceToNat] at ho31; rw [← Ny126.out] at ho31)); have n0_ := Aside0.mk (Kd.R_elder' (by (with_reducible repeat (first | apply Kd.R_alloc | apply Kd.R_drewN | apply Kd.R_drew)); exact HO_4.out) (Kd.R_base ho31) hb); have n1_ := Aside0.mk (Kd.R_elder' (by (with_reducible repeat (first | apply Kd.R_alloc | apply Kd.R_drewN | apply Kd.R_drew)); exact HO_5.out) (Kd.R_base ho31) hb); have n2_ := Aside0.mk (Kd.R_lower (Kd.R_new' (Kd.R_new' ho31 (Kd.R_lt (by (with_reducible repeat (first | apply Kd.R_alloc | apply Kd.R_drewN | apply Kd.R_drew)); exact HO_4.out))) (Kd.R_lt (by (with_reducible repeat (first | apply Kd.R_alloc | apply Kd.R_drewN | apply Kd.R_drew)); exact HO_5.out))) (below_size (by repeat (first | (with_reducible first | exact HB.out | apply below_alloc | apply pw_below_drewN | apply below_drew1) | exact HB.out)))); have n3_ := Aside0.mk (below_step (by repeat (first | (with_reducible first | exact HB.out | apply below_alloc | apply pw_below_drewN | apply below_drew1) | exact HB.out)) hb); clear HO_4; clear HO_5; clear HB; have HO_4 := n0_; have HO_5 := n1_; have HO128 := n2_; have HB := n3_; clear n0_ n1_ n2_ n3_; clear hb ho31))
                                go_loopg [44] k4 (fun kq v44 w' => ∃ (x8_5 : List Bool) (x44_5 : Int), v44 = .int .i64 x44_5 ∧ Aside0 (impl_LocalLevel.l2 kq x3_5 x4_4 x5_4 x7_4 x8_5 x3_5 x44_5 = some r) ∧ Aside0 (kq ≤ k4) ∧ Aside0 (Kd.R Kd.bool 4 w' w.heap.size (fun k_ => some k_ ≠ (u5 : Value).ownBlock ∧ some k_ ≠ (v127 : Value).ownBlock) v119 x4_4) ∧ Aside0 (Kd.R Kd.bool 4 w' w.heap.size (fun k_ => some k_ ≠ (v119 : Value).ownBlock ∧ some k_ ≠ (v127 : Value).ownBlock) u5 x5_4) ∧ Aside0 (Kd.R Kd.bool 4 w' w.heap.size (fun k_ => some k_ ≠ (v119 : Value).ownBlock ∧ some k_ ≠ (u5 : Value).ownBlock) v127 x8_5) ∧ Aside0 (Below w.heap.size w w'))
                                case atStart => exact ⟨(y126), (0), (by first | rfl | (simp; done) | (simp [*]; done)), H', ⟨Nat.le_refl _⟩, ⟨by (with_reducible repeat (first | apply Kd.R_alloc | apply Kd.R_drewN | apply Kd.R_drew)); exact HO_4.out⟩, ⟨by (with_reducible repeat (first | apply Kd.R_alloc | apply Kd.R_drewN | apply Kd.R_drew)); exact HO_5.out⟩, ⟨by (with_reducible repeat (first | apply Kd.R_alloc | apply Kd.R_drewN | apply Kd.R_drew)); exact Kd.R_mono HO128.out (fun _ hk => ⟨hk.1.2, hk.2⟩)⟩, ⟨by repeat (first | (with_reducible first | exact HB.out | apply below_alloc | apply pw_below_drewN | apply below_drew1) | exact HB.out)⟩⟩
                                case round =>
                                  clear H'
                                  try clear c1
                                  try clear c2
                                  try clear p2
                                  try clear q2
                                  try clear hx2
                                  try clear qi2
                                  try clear hf2
                                  try clear c3
                                  try clear c3b0
                                  try clear c3b1
                                  try clear c4
                                  try clear c5
                                  try clear p6
                                  try clear c7
                                  try clear c7b0
                                  try clear c7b1
                                  try clear c8
                                  try clear c8b0
                                  try clear c8b1
                                  try clear c9
                                  try clear c9b0
                                  try clear c9b1
                                  try clear c16
                                  try clear c16b0
                                  try clear c17
                                  try clear c17b0
                                  try clear c17b1
                                  try clear c19
                                  try clear c19b0
                                  try clear c20
                                  try clear c20b0
                                  try clear p21
                                  try clear q21
                                  try clear hx21
                                  try clear hf21
                                  try clear c24
                                  try clear c24b0
                                  try clear c24b1
                                  try clear p25
                                  try clear q25
                                  try clear hx25
                                  try clear qi25
                                  try clear hf25
                                  try clear c28
                                  try clear c28b0
                                  try clear c28b1
                                  try clear c29
                                  try clear c29b0
                                  try clear c29b1
                                  try clear hx21_0
                                  try clear hx25_0
                                  try clear p2
                                  try clear p21
                                  try clear p25
                                  try clear p6
                                  try clear q2
                                  try clear q21
                                  try clear q25
                                  obtain ⟨x8_5, x44_5, rfl, HA, HK5, HO_4, HO_5, HO_8, HB⟩ := hrel
                                  cases gk with
                                  | zero => exact absurd HA.out (by simp [impl_LocalLevel.l2])
                                  | succ k5 =>
                                    have H := HA.out
                                    clear HA
                                    simp only [impl_LocalLevel.l2] at H
                                    by_cases c32 : x44_5 < x3_5
                                    · rw [if_pos c32] at H
                                      have c32b0 : decide (x44_5 < x3_5) = true := decide_eq_true c32
                                      clear c32
                                      have H' := Aside0.mk H
                                      clear H
                                      go_wp2
                                      go_loopg [48] k5 (fun kq v48 w' => ∃ (x8_6 : List Bool) (x48_6 : Int), v48 = .int .i64 x48_6 ∧ Aside0 (impl_LocalLevel.l3 kq x3_5 x4_4 x5_4 x7_4 x8_6 x44_5 x3_5 x44_5 x3_5 x48_6 = some r) ∧ Aside0 (kq ≤ k5) ∧ Aside0 (Kd.R Kd.bool 4 w' w.heap.size (fun k_ => some k_ ≠ (u5 : Value).ownBlock ∧ some k_ ≠ (v127 : Value).ownBlock) v119 x4_4) ∧ Aside0 (Kd.R Kd.bool 4 w' w.heap.size (fun k_ => some k_ ≠ (v119 : Value).ownBlock ∧ some k_ ≠ (v127 : Value).ownBlock) u5 x5_4) ∧ Aside0 (Kd.R Kd.bool 4 w' w.heap.size (fun k_ => some k_ ≠ (v119 : Value).ownBlock ∧ some k_ ≠ (u5 : Value).ownBlock) v127 x8_6) ∧ Aside0 (Below w.heap.size w w'))
                                      case atStart => exact ⟨(x8_5), (0), (by first | rfl | (simp; done) | (simp [*]; done)), H', ⟨Nat.le_refl _⟩, ⟨by (with_reducible repeat (first | apply Kd.R_alloc | apply Kd.R_drewN | apply Kd.R_drew)); exact HO_4.out⟩, ⟨by (with_reducible repeat (first | apply Kd.R_alloc | apply Kd.R_drewN | apply Kd.R_drew)); exact HO_5.out⟩, ⟨by (with_reducible repeat (first | apply Kd.R_alloc | apply Kd.R_drewN | apply Kd.R_drew)); exact HO_8.out⟩, ⟨by repeat (first | (with_reducible first | exact HB.out | apply below_alloc | apply pw_below_drewN | apply below_drew1) | exact HB.out)⟩⟩
                                      case round =>
                                        clear H'
                                        try clear c1
                                        try clear c2
                                        try clear p2
                                        try clear q2
                                        try clear hx2
                                        try clear qi2
                                        try clear hf2
                                        try clear c3
                                        try clear c3b0
                                        try clear c3b1
                                        try clear c4
                                        try clear c5
                                        try clear p6
                                        try clear c7
                                        try clear c7b0
                                        try clear c7b1
                                        try clear c8
                                        try clear c8b0
                                        try clear c8b1
                                        try clear c9
                                        try clear c9b0
                                        try clear c9b1
                                        try clear c16
                                        try clear c16b0
                                        try clear c17
                                        try clear c17b0
                                        try clear c17b1
                                        try clear c19
                                        try clear c19b0
                                        try clear c20
                                        try clear c20b0
                                        try clear p21
                                        try clear q21
                                        try clear hx21
                                        try clear hf21
                                        try clear c24
                                        try clear c24b0
                                        try clear c24b1
                                        try clear p25
                                        try clear q25
                                        try clear hx25
                                        try clear qi25
                                        try clear hf25
                                        try clear c28
                                        try clear c28b0
                                        try clear c28b1
                                        try clear c29
                                        try clear c29b0
                                        try clear c29b1
                                        try clear c32
                                        try clear c32b0
                                        try clear hx21_0
                                        try clear hx25_0
                                        try clear p2
                                        try clear p21
                                        try clear p25
                                        try clear p6
                                        try clear q2
                                        try clear q21
                                        try clear q25
                                        obtain ⟨x8_6, x48_6, rfl, HA, HK6, HO_4, HO_5, HO_8, HB⟩ := hrel
                                        cases gk with
                                        | zero => exact absurd HA.out (by simp [impl_LocalLevel.l3])
                                        | succ k6 =>
                                          have H := HA.out
                                          clear HA
                                          simp only [impl_LocalLevel.l3] at H
                                          by_cases c33 : x48_6 < x3_5
                                          · rw [if_pos c33] at H
                                            have c33b0 : decide (x48_6 < x3_5) = true := decide_eq_true c33
                                            clear c33
                                            by_cases c34 : 0 ≤ x44_5
                                            · rw [if_pos c34] at H
                                              have c34b0 : decide (0 ≤ x44_5) = true := decide_eq_true c34
                                              clear c34
                                              by_cases c35 : x44_5 < (x5_4.length : Int)
                                              · rw [if_pos c35] at H
                                                have c35b0 : decide (x44_5 < (x5_4.length : Int)) = true := decide_eq_true c35
                                                clear c35
                                                obtain ⟨bq36, hbq36⟩ : ∃ b_ : Bool, b_ = (rdOf false x5_4 x44_5) := ⟨_, rfl⟩
                                                replace H : (if bq36 = true then (if 0 ≤ x48_6 then (if x48_6 < (x4_4.length : Int) then (if rdOf false x4_4 x48_6 = true then (if x3_5 = 0 then (none) else (if 0 ≤ (Int.tmod (wrap64 (x44_5 + x48_6)) x3_5) then (if (Int.tmod (wrap64 (x44_5 + x48_6)) x3_5) < (x8_6.length : Int) then (impl_LocalLevel.l3 k6 x3_5 x4_4 x5_4 x7_4 (x8_6.set ((Int.tmod (wrap64 (x44_5 + x48_6)) x3_5) : Int).toNat true) x44_5 x3_5 x44_5 x3_5 (wrap64 (x48_6 + 1))) else (none)) else (none))) else (impl_LocalLevel.l3 k6 x3_5 x4_4 x5_4 x7_4 x8_6 x44_5 x3_5 x44_5 x3_5 (wrap64 (x48_6 + 1)))) else (none)) else (none)) else (impl_LocalLevel.l3 k6 x3_5 x4_4 x5_4 x7_4 x8_6 x44_5 x3_5 x44_5 x3_5 (wrap64 (x48_6 + 1)))) = some r := by rw [← hbq36] at H; exact H
                                                have Nbq36 := Aside0.mk hbq36
                                                clear hbq36
                                                by_cases c37 : bq36 = true
                                                · subst c37
                                                  have H1 : (if 0 ≤ x48_6 then (if x48_6 < (x4_4.length : Int) then (if rdOf false x4_4 x48_6 = true then (if x3_5 = 0 then (none) else (if 0 ≤ (Int.tmod (wrap64 (x44_5 + x48_6)) x3_5) then (if (Int.tmod (wrap64 (x44_5 + x48_6)) x3_5) < (x8_6.length : Int) then (impl_LocalLevel.l3 k6 x3_5 x4_4 x5_4 x7_4 (x8_6.set ((Int.tmod (wrap64 (x44_5 + x48_6)) x3_5) : Int).toNat true) x44_5 x3_5 x44_5 x3_5 (wrap64 (x48_6 + 1))) else (none)) else (none))) else (impl_LocalLevel.l3 k6 x3_5 x4_4 x5_4 x7_4 x8_6 x44_5 x3_5 x44_5 x3_5 (wrap64 (x48_6 + 1)))) else (none)) else (none)) = some r := by rw [if_pos rfl] at H; exact H
                                                  clear H
                                                  have H := H1
                                                  clear H1
                                                  by_cases c38 : 0 ≤ x48_6
                                                  · rw [if_pos c38] at H
                                                    have c38b0 : decide (0 ≤ x48_6) = true := decide_eq_true c38
                                                    clear c38
                                                    by_cases c39 : x48_6 < (x4_4.length : Int)
                                                    · rw [if_pos c39] at H
                                                      have c39b0 : decide (x48_6 < (x4_4.length : Int)) = true := decide_eq_true c39
                                                      clear c39
                                                      obtain ⟨bq40, hbq40⟩ : ∃ b_ : Bool, b_ = (rdOf false x4_4 x48_6) := ⟨_, rfl⟩
                                                      replace H : (if bq40 = true then (if x3_5 = 0 then (none) else (if 0 ≤ (Int.tmod (wrap64 (x44_5 + x48_6)) x3_5) then (if (Int.tmod (wrap64 (x44_5 + x48_6)) x3_5) < (x8_6.length : Int) then (impl_LocalLevel.l3 k6 x3_5 x4_4 x5_4 x7_4 (x8_6.set ((Int.tmod (wrap64 (x44_5 + x48_6)) x3_5) : Int).toNat true) x44_5 x3_5 x44_5 x3_5 (wrap64 (x48_6 + 1))) else (none)) else (none))) else (impl_LocalLevel.l3 k6 x3_5 x4_4 x5_4 x7_4 x8_6 x44_5 x3_5 x44_5 x3_5 (wrap64 (x48_6 + 1)))) = some r := by rw [← hbq40] at H; exact H
                                                      have Nbq40 := Aside0.mk hbq40
                                                      clear hbq40
                                                      by_cases c41 : bq40 = true
                                                      · subst c41
                                                        have H1 : (if x3_5 = 0 then (none) else (if 0 ≤ (Int.tmod (wrap64 (x44_5 + x48_6)) x3_5) then (if (Int.tmod (wrap64 (x44_5 + x48_6)) x3_5) < (x8_6.length : Int) then (impl_LocalLevel.l3 k6 x3_5 x4_4 x5_4 x7_4 (x8_6.set ((Int.tmod (wrap64 (x44_5 + x48_6)) x3_5) : Int).toNat true) x44_5 x3_5 x44_5 x3_5 (wrap64 (x48_6 + 1))) else (none)) else (none))) = some r := by rw [if_pos rfl] at H; exact H
                                                        clear H
                                                        have H := H1
                                                        clear H1
                                                        by_cases c42 : x3_5 = 0
                                                        · rw [if_pos c42] at H
                                                          exact absurd H (by simp)
                                                        · rw [if_neg c42] at H
                                                          have c42b0 : (x3_5 == 0) = false := beq_eq_false_iff_ne.mpr c42
                                                          have c42b1 : (x3_5 != 0) = true := bne_iff_ne.mpr c42
                                                          obtain ⟨ji43, hji43⟩ : ∃ j_ : Int, (Int.tmod (wrap64 (x44_5 + x48_6)) x3_5) = j_ := ⟨_, rfl⟩
                                                          replace H : (if 0 ≤ (ji43) then (if (ji43) < (x8_6.length : Int) then (impl_LocalLevel.l3 k6 x3_5 x4_4 x5_4 x7_4 (x8_6.set ((ji43) : Int).toNat true) x44_5 x3_5 x44_5 x3_5 (wrap64 (x48_6 + 1))) else (none)) else (none)) = some r := by first | (rw [hji43] at H; exact H) | (simp only [hji43] at H ⊢; exact H)
                                                          by_cases c44 : 0 ≤ (ji43)
                                                          · rw [if_pos c44] at H
                                                            have c44b0 : decide (0 ≤ (ji43)) = true := decide_eq_true c44
                                                            clear c44
                                                            by_cases c45 : (ji43) < (x8_6.length : Int)
                                                            · rw [if_pos c45] at H
                                                              have c45b0 : decide ((ji43) < (x8_6.length : Int)) = true := decide_eq_true c45
                                                              clear c45
                                                              obtain ⟨y132, hy132⟩ : ∃ y_ : List Bool, y_ = (x8_6.set ((ji43) : Int).toNat true) := ⟨_, rfl⟩
                                                              replace H : (impl_LocalLevel.l3 k6 x3_5 x4_4 x5_4 x7_4 y132 x44_5 x3_5 x44_5 x3_5 (wrap64 (x48_6 + 1))) = some r := by first | (rw [hy132]; with_reducible exact H) | (have H2_ := (Option.bind_some _ _).symm.trans H; rw [hy132]; with_reducible exact H2_) | (have H2_ := (Option.bind_some _ _).symm.trans H; with_reducible exact H2_) | with_reducible exact H | (rw [hy132]; exact H) | exact H
                                                              have Ny132 := Aside0.mk hy132
                                                              clear hy132
                                                              have H' := Aside0.mk H
                                                              clear H
                                                              obtain ⟨Ao47, co47, eo47⟩ := Kd.R_slice HO_5.out
                                                              subst eo47
                                                              have p130 : 0 ≤ (x44_5 : Int) := of_decide_eq_true (by first | (with_reducible assumption) | assumption)
                                                              have q130 : x44_5 < (x5_4.length : Int) := of_decide_eq_true (by first | (with_reducible assumption) | assumption)
                                                              obtain ⟨ad130, e130, hx130_0⟩ := Kd.at_bool (Kd.R_reads' HO_5.out).2.2 x44_5 p130 q130
                                                              (try rw [← Nbq36.out] at hx130_0)
                                                              (try rw [← Nbq40.out] at hx130_0)
                                                              cases e130
                                                              replace p130 := eq_true p130
                                                              replace q130 := eq_true q130
                                                              obtain ⟨Ao48, co48, eo48⟩ := Kd.R_slice HO_4.out
                                                              subst eo48
                                                              have p131 : 0 ≤ (x48_6 : Int) := of_decide_eq_true (by first | (with_reducible assumption) | assumption)
                                                              have q131 : x48_6 < (x4_4.length : Int) := of_decide_eq_true (by first | (with_reducible assumption) | assumption)
                                                              obtain ⟨ad131, e131, hx131_0⟩ := Kd.at_bool (Kd.R_reads' HO_4.out).2.2 x48_6 p131 q131
                                                              (try rw [← Nbq36.out] at hx131_0)
                                                              (try rw [← Nbq40.out] at hx131_0)
                                                              cases e131
                                                              replace p131 := eq_true p131
                                                              replace q131 := eq_true q131
                                                              have p46 : 0 ≤ ((ji43) : Int) := of_decide_eq_true (by first | (with_reducible assumption) | assumption)
                                                              have q46 : ((ji43) : Int) < ((x8_6.length : Int) : Int) := of_decide_eq_true (by first | (with_reducible assumption) | assumption)
                                                              obtain ⟨go46, co46, eo46, gb46, gl46, cl46, HG46⟩ := Kd.R_form HO_8.out (by omega)
                                                              (first | cases eo46 | (injection eo46 with ea_ en_ ec_; (first | subst ea_ | (injection ea_ with ea_; subst ea_)); subst ec_; clear en_))
                                                              have GB46 := Aside0.mk gb46
                                                              have GG46 := Aside0.mk HG46
                                                              clear gb46 gl46 HG46
                                                              obtain ⟨hx46_0, hf46_0⟩ := Kd.R_celln false HO_8.out ((ji43) : Int) p46 q46
                                                              replace p46 := eq_true p46
                                                              replace q46 := eq_true q46
                                                              have HP49 := Kd.R_putg HO_8.out ((ji43) : Int) true
                                                              go_wp2_with (first | ((with_reducible refine gate_store (t := 4) (p := 67) rfl ?_); refine store_event (t := 4) (p := 67) (v := ?vo_w50) (w1 := (wr.setCell ⟨go46, ((ji43) : Int).toNat, none⟩ (.bool true))) ?hg ?ho ?hn ?hr ?_; (case ho => rfl); (case hg => rfl); (case hn => rfl); (case hr => first | (go_simp; done) | (go_simp; rfl)); intro w50 hw; have hg : wr.grownBy w50 (some go46) := (by rw [hw]; exact HP49.2); have hp_ : Kd.R Kd.bool 4 w50 w.heap.size (fun k_ => some k_ ≠ (.slice (some ad131) x4_4.length co48 : Value).ownBlock ∧ some k_ ≠ (.slice (some ad130) x5_4.length co47 : Value).ownBlock) (.slice (some ⟨go46, 0, none⟩) x8_6.length co46) y132 := (by rw [hw, Ny132.out]; exact HP49.1); clear HP49; have n0_ := Aside0.mk (Kd.R_after (v := (.slice (some ⟨go46, 0, none⟩) x8_6.length co46)) (v1 := (.slice (some ⟨go46, 0, none⟩) x8_6.length co46)) (ok := (fun k_ => some k_ ≠ (.slice (some ad130) x5_4.length co47 : Value).ownBlock)) (by (with_reducible repeat (first | apply Kd.R_alloc | apply Kd.R_drewN | apply Kd.R_drew)); exact HO_4.out) hg (.inl rfl)); have n1_ := Aside0.mk (Kd.R_after (v := (.slice (some ⟨go46, 0, none⟩) x8_6.length co46)) (v1 := (.slice (some ⟨go46, 0, none⟩) x8_6.length co46)) (ok := (fun k_ => some k_ ≠ (.slice (some ad131) x4_4.length co48 : Value).ownBlock)) (by (with_reducible repeat (first | apply Kd.R_alloc | apply Kd.R_drewN | apply Kd.R_drew)); exact HO_5.out) hg (.inl rfl)); have n2_ := Aside0.mk (hp_); have n3_ := Aside0.mk ((by rw [hw]; exact below_set (HB.out) GB46.out : Below w.heap.size w w50)); clear HO_4; clear HO_5; clear HO_8; clear HB; have HO_4 := n0_; have HO_5 := n1_; have HO_8 := n2_; have HB := n3_; clear n0_ n1_ n2_ n3_; clear hg hw hp_))
                                                              go_roundg k6
                                                              case measure => have := HJ1.out; have := HJ5.out; have := HK3.out; have := HK4.out; have := HK5.out; have := HK6.out; omega
                                                              case rel => exact ⟨(y132), (wrap64 (x48_6 + 1)), (by first | rfl | (simp; done) | (simp [*]; done)), H', ⟨by have := HJ1.out; have := HJ5.out; have := HK3.out; have := HK4.out; have := HK5.out; have := HK6.out; omega⟩, ⟨by (with_reducible repeat (first | apply Kd.R_alloc | apply Kd.R_drewN | apply Kd.R_drew)); exact HO_4.out⟩, ⟨by (with_reducible repeat (first | apply Kd.R_alloc | apply Kd.R_drewN | apply Kd.R_drew)); exact HO_5.out⟩, ⟨by (with_reducible repeat (first | apply Kd.R_alloc | apply Kd.R_drewN | apply Kd.R_drew)); exact HO_8.out⟩, ⟨by repeat (first | (with_reducible first | exact HB.out | apply below_alloc | apply pw_below_drewN | apply below_drew1) | exact HB.out)⟩⟩
                                                            · rw [if_neg c45] at H
                                                              exact absurd H (by simp)
                                                          · rw [if_neg c44] at H
                                                            exact absurd H (by simp)
                                                      · replace c41 := Bool.eq_false_iff.mpr c41
                                                        subst c41
                                                        have H1 : (impl_LocalLevel.l3 k6 x3_5 x4_4 x5_4 x7_4 x8_6 x44_5 x3_5 x44_5 x3_5 (wrap64 (x48_6 + 1))) = some r := by rw [if_neg (show ¬ (false = true) by decide)] at H; exact H
                                                        clear H
                                                        have H := H1
                                                        clear H1
                                                        have H' := Aside0.mk H
                                                        clear H
                                                        obtain ⟨Ao51, co51, eo51⟩ := Kd.R_slice HO_5.out
                                                        subst eo51
                                                        have p130 : 0 ≤ (x44_5 : Int) := of_decide_eq_true (by first | (with_reducible assumption) | assumption)
                                                        have q130 : x44_5 < (x5_4.length : Int) := of_decide_eq_true (by first | (with_reducible assumption) | assumption)
                                                        obtain ⟨ad130, e130, hx130_0⟩ := Kd.at_bool (Kd.R_reads' HO_5.out).2.2 x44_5 p130 q130
                                                        (try rw [← Nbq36.out] at hx130_0)
                                                        (try rw [← Nbq40.out] at hx130_0)
                                                        cases e130
                                                        replace p130 := eq_true p130
                                                        replace q130 := eq_true q130
                                                        obtain ⟨Ao52, co52, eo52⟩ := Kd.R_slice HO_4.out
                                                        subst eo52
                                                        have p131 : 0 ≤ (x48_6 : Int) := of_decide_eq_true (by first | (with_reducible assumption) | assumption)
                                                        have q131 : x48_6 < (x4_4.length : Int) := of_decide_eq_true (by first | (with_reducible assumption) | assumption)
                                                        obtain ⟨ad131, e131, hx131_0⟩ := Kd.at_bool (Kd.R_reads' HO_4.out).2.2 x48_6 p131 q131
                                                        (try rw [← Nbq36.out] at hx131_0)
                                                        (try rw [← Nbq40.out] at hx131_0)
                                                        cases e131
                                                        replace p131 := eq_true p131
                                                        replace q131 := eq_true q131
                                                        go_wp2
                                                        go_roundg k6
                                                        case measure => have := HJ1.out; have := HJ5.out; have := HK3.out; have := HK4.out; have := HK5.out; have := HK6.out; omega
                                                        case rel => exact ⟨(x8_6), (wrap64 (x48_6 + 1)), (by first | rfl | (simp; done) | (simp [*]; done)), H', ⟨by have := HJ1.out; have := HJ5.out; have := HK3.out; have := HK4.out; have := HK5.out; have := HK6.out; omega⟩, ⟨by (with_reducible repeat (first | apply Kd.R_alloc | apply Kd.R_drewN | apply Kd.R_drew)); exact HO_4.out⟩, ⟨by (with_reducible repeat (first | apply Kd.R_alloc | apply Kd.R_drewN | apply Kd.R_drew)); exact HO_5.out⟩, ⟨by (with_reducible repeat (first | apply Kd.R_alloc | apply Kd.R_drewN | apply Kd.R_drew)); exact HO_8.out⟩, ⟨by repeat (first | (with_reducible first | exact HB.out | apply below_alloc | apply pw_below_drewN | apply below_drew1) | exact HB.out)⟩⟩
                                                    · rw [if_neg c39] at H
                                                      exact absurd H (by simp)
                                                  · rw [if_neg c38] at H
                                                    exact absurd H (by simp)
                                                · replace c37 := Bool.eq_false_iff.mpr c37
                                                  subst c37
                                                  have H1 : (impl_LocalLevel.l3 k6 x3_5 x4_4 x5_4 x7_4 x8_6 x44_5 x3_5 x44_5 x3_5 (wrap64 (x48_6 + 1))) = some r := by rw [if_neg (show ¬ (false = true) by decide)] at H; exact H
                                                  clear H
                                                  have H := H1
                                                  clear H1
                                                  have H' := Aside0.mk H
                                                  clear H
                                                  obtain ⟨Ao53, co53, eo53⟩ := Kd.R_slice HO_5.out
                                                  subst eo53
                                                  have p130 : 0 ≤ (x44_5 : Int) := of_decide_eq_true (by first | (with_reducible assumption) | assumption)
                                                  have q130 : x44_5 < (x5_4.length : Int) := of_decide_eq_true (by first | (with_reducible assumption) | assumption)
                                                  obtain ⟨ad130, e130, hx130_0⟩ := Kd.at_bool (Kd.R_reads' HO_5.out).2.2 x44_5 p130 q130
                                                  (try rw [← Nbq36.out] at hx130_0)
                                                  cases e130
                                                  replace p130 := eq_true p130
                                                  replace q130 := eq_true q130
                                                  go_wp2
                                                  go_roundg k6
                                                  case measure => have := HJ1.out; have := HJ5.out; have := HK3.out; have := HK4.out; have := HK5.out; have := HK6.out; omega
                                                  case rel => exact ⟨(x8_6), (wrap64 (x48_6 + 1)), (by first | rfl | (simp; done) | (simp [*]; done)), H', ⟨by have := HJ1.out; have := HJ5.out; have := HK3.out; have := HK4.out; have := HK5.out; have := HK6.out; omega⟩, ⟨by (with_reducible repeat (first | apply Kd.R_alloc | apply Kd.R_drewN | apply Kd.R_drew)); exact HO_4.out⟩, ⟨by (with_reducible repeat (first | apply Kd.R_alloc | apply Kd.R_drewN | apply Kd.R_drew)); exact HO_5.out⟩, ⟨by (with_reducible repeat (first | apply Kd.R_alloc | apply Kd.R_drewN | apply Kd.R_drew)); exact HO_8.out⟩, ⟨by repeat (first | (with_reducible first | exact HB.out | apply below_alloc | apply pw_below_drewN | apply below_drew1) | exact HB.out)⟩⟩
                                              · rw [if_neg c35] at H
                                                exact absurd H (by simp)
                                            · rw [if_neg c34] at H
                                              exact absurd H (by simp)
                                          · rw [if_neg c33] at H
                                            have c33b0 : decide (x48_6 < x3_5) = false := decide_eq_false c33
                                            clear c33
                                            have H' := Aside0.mk H
                                            clear H
                                            go_wp2
                                            go_roundg k6
                                            case measure => have := HJ1.out; have := HJ5.out; have := HK3.out; have := HK4.out; have := HK5.out; have := HK6.out; omega
                                            case rel => exact ⟨(x8_6), (wrap64 (x44_5 + 1)), (by first | rfl | (simp; done) | (simp [*]; done)), H', ⟨by have := HJ1.out; have := HJ5.out; have := HK3.out; have := HK4.out; have := HK5.out; have := HK6.out; omega⟩, ⟨by (with_reducible repeat (first | apply Kd.R_alloc | apply Kd.R_drewN | apply Kd.R_drew)); exact HO_4.out⟩, ⟨by (with_reducible repeat (first | apply Kd.R_alloc | apply Kd.R_drewN | apply Kd.R_drew)); exact HO_5.out⟩, ⟨by (with_reducible repeat (first | apply Kd.R_alloc | apply Kd.R_drewN | apply Kd.R_drew)); exact HO_8.out⟩, ⟨by repeat (first | (with_reducible first | exact HB.out | apply below_alloc | apply pw_below_drewN | apply below_drew1) | exact HB.out)⟩⟩
                                    · rw [if_neg c32] at H
                                      have c32b0 : decide (x44_5 < x3_5) = false := decide_eq_false c32
                                      clear c32
                                      obtain ⟨ji54, hji54⟩ : ∃ j_ : Int, (wrap64 (x3_5 - 1)) = j_ := ⟨_, rfl⟩
                                      replace H : (if 0 ≤ (ji54) then (if (ji54) < (x8_5.length : Int) then (if rdOf false x8_5 (ji54) = true then (some x7_4) else (impl_LocalLevel.l1 k5 x3_5 x4_4 x8_5 (wrap64 (x7_4 + 1)))) else (none)) else (none)) = some r := by first | (rw [hji54] at H; exact H) | (simp only [hji54] at H ⊢; exact H)
                                      have hji54w : (IntKind.i64.wrap (x3_5 - 1)) = ji54 := (i64_w _).trans hji54
                                      by_cases c55 : 0 ≤ (ji54)
                                      · rw [if_pos c55] at H
                                        have c55b0 : decide (0 ≤ (ji54)) = true := decide_eq_true c55
                                        clear c55
                                        by_cases c56 : (ji54) < (x8_5.length : Int)
                                        · rw [if_pos c56] at H
                                          have c56b0 : decide ((ji54) < (x8_5.length : Int)) = true := decide_eq_true c56
                                          clear c56
                                          obtain ⟨bq57, hbq57⟩ : ∃ b_ : Bool, b_ = (rdOf false x8_5 (ji54)) := ⟨_, rfl⟩
                                          replace H : (if bq57 = true then (some x7_4) else (impl_LocalLevel.l1 k5 x3_5 x4_4 x8_5 (wrap64 (x7_4 + 1)))) = some r := by rw [← hbq57] at H; exact H
                                          have Nbq57 := Aside0.mk hbq57
                                          clear hbq57
                                          by_cases c58 : bq57 = true
                                          · subst c58
                                            have H1 : (some x7_4) = some r := by rw [if_pos rfl] at H; exact H
                                            clear H
                                            have H := H1
                                            clear H1
                                            obtain rfl := Option.some.inj H
                                            obtain ⟨Ao59, co59, eo59⟩ := Kd.R_slice HO_8.out
                                            subst eo59
                                            have p129 : 0 ≤ ((ji54) : Int) := of_decide_eq_true (by first | (with_reducible assumption) | assumption)
                                            have q129 : (ji54) < (x8_5.length : Int) := of_decide_eq_true (by first | (with_reducible assumption) | assumption)
                                            obtain ⟨ad129, e129, hx129_0⟩ := Kd.at_bool (Kd.R_reads' HO_8.out).2.2 (ji54) p129 q129
                                            (try rw [← Nbq57.out] at hx129_0)
                                            cases e129
                                            replace p129 := eq_true p129
                                            replace q129 := eq_true q129
                                            go_wp2
                                            go_ret
                                            exact ⟨by first | rfl | (simp [errW_none, errW_some] <;> rfl) | (simp only [← hji54]; first | rfl | (simp [errW_none, errW_some] <;> rfl)) | (simp [*, errW_none, errW_some] <;> rfl), by repeat (first | (with_reducible first | exact HB.out | apply below_alloc | apply pw_below_drewN | apply below_drew1) | exact HB.out)⟩
                                          · replace c58 := Bool.eq_false_iff.mpr c58
                                            subst c58
                                            have H1 : (impl_LocalLevel.l1 k5 x3_5 x4_4 x8_5 (wrap64 (x7_4 + 1))) = some r := by rw [if_neg (show ¬ (false = true) by decide)] at H; exact H
                                            clear H
                                            have H := H1
                                            clear H1
                                            have H' := Aside0.mk H
                                            clear H
                                            obtain ⟨Ao60, co60, eo60⟩ := Kd.R_slice HO_8.out
                                            subst eo60
                                            have p129 : 0 ≤ ((ji54) : Int) := of_decide_eq_true (by first | (with_reducible assumption) | assumption)
                                            have q129 : (ji54) < (x8_5.length : Int) := of_decide_eq_true (by first | (with_reducible assumption) | assumption)
                                            obtain ⟨ad129, e129, hx129_0⟩ := Kd.at_bool (Kd.R_reads' HO_8.out).2.2 (ji54) p129 q129
                                            (try rw [← Nbq57.out] at hx129_0)
                                            cases e129
                                            replace p129 := eq_true p129
                                            replace q129 := eq_true q129
                                            go_wp2
                                            go_roundg k5
                                            case measure => have := HJ1.out; have := HJ5.out; have := HK3.out; have := HK4.out; have := HK5.out; omega
                                            case rel => exact ⟨(x4_4), (x8_5), (wrap64 (x7_4 + 1)), (by first | rfl | (simp; done) | (simp [*]; done)), H', ⟨by have := HJ1.out; have := HJ5.out; have := HK3.out; have := HK4.out; have := HK5.out; omega⟩, ⟨by (with_reducible repeat (first | apply Kd.R_alloc | apply Kd.R_drewN | apply Kd.R_drew)); exact Kd.R_mono HO_4.out (fun _ hk => hk.2)⟩, ⟨by (with_reducible repeat (first | apply Kd.R_alloc | apply Kd.R_drewN | apply Kd.R_drew)); exact Kd.R_mono HO_8.out (fun _ hk => hk.1)⟩, ⟨by repeat (first | (with_reducible first | exact HB.out | apply below_alloc | apply pw_below_drewN | apply below_drew1) | exact HB.out)⟩⟩
                                        · rw [if_neg c56] at H
                                          exact absurd H (by simp)
                                      · rw [if_neg c55] at H
                                        exact absurd H (by simp)
                              · rw [if_neg c29] at H
                                exact absurd H (by simp)
                            · rw [if_neg c28] at H
                              exact absurd H (by simp)
                      · rw [if_neg c24] at H
                        exact absurd H (by simp)
              · rw [if_neg c9] at H
                exact absurd H (by simp)
            · rw [if_neg c8] at H
              exact absurd H (by simp)

end Go.Proofs.Ytmepbogcfkecnaa.PFnExactLocalLevel
