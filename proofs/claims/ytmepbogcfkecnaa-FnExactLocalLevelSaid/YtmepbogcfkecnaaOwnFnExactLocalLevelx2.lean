/- Steps of the functions that FnExactLocalLevel reaches, written by a program of this workplace for this claim: each comes to the answers of the plain function beside it. -/
import Derived.Test.YtmepbogcfkecnaaOwnFnExactLocalLevelx0
import Derived.Test.YtmepbogcfkecnaaOwnFnExactLocalLevelx1
namespace Go.Proofs.Ytmepbogcfkecnaa.PFnExactLocalLevel
open Go.RowKit Go.Proofs.YtmepbogcfkecnaaW.PrintWords Go.Proofs.YtmepbogcfkecnaaW.PrintLast Go.Proofs.YtmepbogcfkecnaaW.PrintMore
attribute [local go_sem] max2_int min2_int max_two min_two max_three min_three max_four min_four   -- for this text's walks alone
set_option linter.unusedVariables false
set_option linter.unusedSimpArgs false

/-! ### spec_LocalLevel: function 39 -/
mutual
def spec_LocalLevel.j0 : Nat → Int → Bool → Option (Int)
  | 0, _, _ => none
  | k + 1, x0, x17 => if x17 = true then (some (-1)) else (if x0 = 2 then (spec_LocalLevel.j1 k 16) else (spec_LocalLevel.j1 k x0))
def spec_LocalLevel.j1 : Nat → Int → Option (Int)
  | 0, _ => none
  | k + 1, x3 => if 0 ≤ x3 then (if (x3 : Int).toNat ≤ 281474976710656 then (spec_LocalLevel.l0 k x3 (List.replicate (x3 : Int).toNat false) 0) else (none)) else (none)
def spec_LocalLevel.l0 : Nat → Int → List Bool → Int → Option (Int)
  | 0, _, _, _ => none
  | k + 1, x3, x4, x5 => if x5 < x3 then (if x3 = 0 then (none) else (if 0 ≤ (Int.tmod (wrap64 (x5 * x5)) x3) then (if (Int.tmod (wrap64 (x5 * x5)) x3) < (x4.length : Int) then (spec_LocalLevel.l0 k x3 (x4.set ((Int.tmod (wrap64 (x5 * x5)) x3) : Int).toNat true) (wrap64 (x5 + 1))) else (none)) else (none))) else (spec_LocalLevel.l1 k x3 x4 x4 1)
def spec_LocalLevel.l1 : Nat → Int → List Bool → List Bool → Int → Option (Int)
  | 0, _, _, _, _ => none
  | k + 1, x3, x4, x6, x7 => if 0 ≤ (wrap64 (x3 - 1)) then (if (wrap64 (x3 - 1)) < (x6.length : Int) then (if (rdOf false x6 (wrap64 (x3 - 1)) = true) then (some x7) else (if 0 ≤ x3 then (if (x3 : Int).toNat ≤ 281474976710656 then (spec_LocalLevel.l2 k x3 x4 x6 x7 (List.replicate (x3 : Int).toNat false) 0) else (none)) else (none))) else (none)) else (none)
def spec_LocalLevel.l2 : Nat → Int → List Bool → List Bool → Int → List Bool → Int → Option (Int)
  | 0, _, _, _, _, _, _ => none
  | k + 1, x3, x4, x6, x7, x8, x9 => if x9 < x3 then (spec_LocalLevel.l3 k x3 x4 x6 x7 x8 x9 0) else (spec_LocalLevel.l1 k x3 x4 x8 (wrap64 (x7 + 1)))
def spec_LocalLevel.l3 : Nat → Int → List Bool → List Bool → Int → List Bool → Int → Int → Option (Int)
  | 0, _, _, _, _, _, _, _ => none
  | k + 1, x3, x4, x6, x7, x8, x9, x10 => if x10 < x3 then (if 0 ≤ x9 then (if x9 < (x6.length : Int) then (if rdOf false x6 x9 = true then (if 0 ≤ x10 then (if x10 < (x4.length : Int) then (if rdOf false x4 x10 = true then (if x3 = 0 then (none) else (if 0 ≤ (Int.tmod (wrap64 (x9 + x10)) x3) then (if (Int.tmod (wrap64 (x9 + x10)) x3) < (x8.length : Int) then (spec_LocalLevel.l3 k x3 x4 x6 x7 (x8.set ((Int.tmod (wrap64 (x9 + x10)) x3) : Int).toNat true) x9 (wrap64 (x10 + 1))) else (none)) else (none))) else (spec_LocalLevel.l3 k x3 x4 x6 x7 x8 x9 (wrap64 (x10 + 1)))) else (none)) else (none)) else (spec_LocalLevel.l3 k x3 x4 x6 x7 x8 x9 (wrap64 (x10 + 1)))) else (none)) else (none)) else (spec_LocalLevel.l2 k x3 x4 x6 x7 x8 (wrap64 (x9 + 1)))
end
def spec_LocalLevel.f (k : Nat) (a0 : Int) : Option (Int) := (spec_PlaceValid.f k a0).bind fun t103 => (if t103 = true then (spec_LocalLevel.j0 k a0 (a0 == 0)) else (spec_LocalLevel.j0 k a0 true))
theorem spec_LocalLevel.mono_l : ∀ k, (∀ y0 y1, LeO (spec_LocalLevel.j0 k y0 y1) (spec_LocalLevel.j0 (k + 1) y0 y1)) ∧ (∀ y0, LeO (spec_LocalLevel.j1 k y0) (spec_LocalLevel.j1 (k + 1) y0)) ∧ (∀ y0 y1 y2, LeO (spec_LocalLevel.l0 k y0 y1 y2) (spec_LocalLevel.l0 (k + 1) y0 y1 y2)) ∧ (∀ y0 y1 y2 y3, LeO (spec_LocalLevel.l1 k y0 y1 y2 y3) (spec_LocalLevel.l1 (k + 1) y0 y1 y2 y3)) ∧ (∀ y0 y1 y2 y3 y4 y5, LeO (spec_LocalLevel.l2 k y0 y1 y2 y3 y4 y5) (spec_LocalLevel.l2 (k + 1) y0 y1 y2 y3 y4 y5)) ∧ (∀ y0 y1 y2 y3 y4 y5 y6, LeO (spec_LocalLevel.l3 k y0 y1 y2 y3 y4 y5 y6) (spec_LocalLevel.l3 (k + 1) y0 y1 y2 y3 y4 y5 y6))
  | 0 => ⟨fun _ _ r h => by simp [spec_LocalLevel.j0] at h, fun _ r h => by simp [spec_LocalLevel.j1] at h, fun _ _ _ r h => by simp [spec_LocalLevel.l0] at h, fun _ _ _ _ r h => by simp [spec_LocalLevel.l1] at h, fun _ _ _ _ _ _ r h => by simp [spec_LocalLevel.l2] at h, fun _ _ _ _ _ _ _ r h => by simp [spec_LocalLevel.l3] at h⟩
  | k + 1 => by
    obtain ⟨ih0, ih1, ih2, ih3, ih4, ih5⟩ := spec_LocalLevel.mono_l k
    refine ⟨?_, ?_, ?_, ?_, ?_, ?_⟩
    · intro y0 y1
      unfold spec_LocalLevel.j0
      repeat' first
      | (with_reducible exact ih0 _ _)
      | (with_reducible exact ih1 _)
      | (with_reducible exact ih2 _ _ _)
      | (with_reducible exact ih3 _ _ _ _)
      | (with_reducible exact ih4 _ _ _ _ _ _)
      | (with_reducible exact ih5 _ _ _ _ _ _ _)
      | (with_reducible exact spec_PlaceValid.mono _ _)
      | (with_reducible exact LeO.refl _)
      | (with_reducible exact LeO.none _)
      | (with_reducible refine LeO.ite ?_ ?_)
      | (with_reducible refine LeO.bind ?_ (fun _ => ?_))
      | exact ih0 _ _
      | exact ih1 _
      | exact ih2 _ _ _
      | exact ih3 _ _ _ _
      | exact ih4 _ _ _ _ _ _
      | exact ih5 _ _ _ _ _ _ _
      | exact spec_PlaceValid.mono _ _
      | exact LeO.none _
      | refine LeO.ite ?_ ?_
      | refine LeO.bind ?_ (fun _ => ?_)
    · intro y0
      unfold spec_LocalLevel.j1
      repeat' first
      | (with_reducible exact ih0 _ _)
      | (with_reducible exact ih1 _)
      | (with_reducible exact ih2 _ _ _)
      | (with_reducible exact ih3 _ _ _ _)
      | (with_reducible exact ih4 _ _ _ _ _ _)
      | (with_reducible exact ih5 _ _ _ _ _ _ _)
      | (with_reducible exact spec_PlaceValid.mono _ _)
      | (with_reducible exact LeO.refl _)
      | (with_reducible exact LeO.none _)
      | (with_reducible refine LeO.ite ?_ ?_)
      | (with_reducible refine LeO.bind ?_ (fun _ => ?_))
      | exact ih0 _ _
      | exact ih1 _
      | exact ih2 _ _ _
      | exact ih3 _ _ _ _
      | exact ih4 _ _ _ _ _ _
      | exact ih5 _ _ _ _ _ _ _
      | exact spec_PlaceValid.mono _ _
      | exact LeO.none _
      | refine LeO.ite ?_ ?_
      | refine LeO.bind ?_ (fun _ => ?_)
    · intro y0 y1 y2
      unfold spec_LocalLevel.l0
      repeat' first
      | (with_reducible exact ih0 _ _)
      | (with_reducible exact ih1 _)
      | (with_reducible exact ih2 _ _ _)
      | (with_reducible exact ih3 _ _ _ _)
      | (with_reducible exact ih4 _ _ _ _ _ _)
      | (with_reducible exact ih5 _ _ _ _ _ _ _)
      | (with_reducible exact spec_PlaceValid.mono _ _)
      | (with_reducible exact LeO.refl _)
      | (with_reducible exact LeO.none _)
      | (with_reducible refine LeO.ite ?_ ?_)
      | (with_reducible refine LeO.bind ?_ (fun _ => ?_))
      | exact ih0 _ _
      | exact ih1 _
      | exact ih2 _ _ _
      | exact ih3 _ _ _ _
      | exact ih4 _ _ _ _ _ _
      | exact ih5 _ _ _ _ _ _ _
      | exact spec_PlaceValid.mono _ _
      | exact LeO.none _
      | refine LeO.ite ?_ ?_
      | refine LeO.bind ?_ (fun _ => ?_)
    · intro y0 y1 y2 y3
      unfold spec_LocalLevel.l1
      repeat' first
      | (with_reducible exact ih0 _ _)
      | (with_reducible exact ih1 _)
      | (with_reducible exact ih2 _ _ _)
      | (with_reducible exact ih3 _ _ _ _)
      | (with_reducible exact ih4 _ _ _ _ _ _)
      | (with_reducible exact ih5 _ _ _ _ _ _ _)
      | (with_reducible exact spec_PlaceValid.mono _ _)
      | (with_reducible exact LeO.refl _)
      | (with_reducible exact LeO.none _)
      | (with_reducible refine LeO.ite ?_ ?_)
      | (with_reducible refine LeO.bind ?_ (fun _ => ?_))
      | exact ih0 _ _
      | exact ih1 _
      | exact ih2 _ _ _
      | exact ih3 _ _ _ _
      | exact ih4 _ _ _ _ _ _
      | exact ih5 _ _ _ _ _ _ _
      | exact spec_PlaceValid.mono _ _
      | exact LeO.none _
      | refine LeO.ite ?_ ?_
      | refine LeO.bind ?_ (fun _ => ?_)
    · intro y0 y1 y2 y3 y4 y5
      unfold spec_LocalLevel.l2
      repeat' first
      | (with_reducible exact ih0 _ _)
      | (with_reducible exact ih1 _)
      | (with_reducible exact ih2 _ _ _)
      | (with_reducible exact ih3 _ _ _ _)
      | (with_reducible exact ih4 _ _ _ _ _ _)
      | (with_reducible exact ih5 _ _ _ _ _ _ _)
      | (with_reducible exact spec_PlaceValid.mono _ _)
      | (with_reducible exact LeO.refl _)
      | (with_reducible exact LeO.none _)
      | (with_reducible refine LeO.ite ?_ ?_)
      | (with_reducible refine LeO.bind ?_ (fun _ => ?_))
      | exact ih0 _ _
      | exact ih1 _
      | exact ih2 _ _ _
      | exact ih3 _ _ _ _
      | exact ih4 _ _ _ _ _ _
      | exact ih5 _ _ _ _ _ _ _
      | exact spec_PlaceValid.mono _ _
      | exact LeO.none _
      | refine LeO.ite ?_ ?_
      | refine LeO.bind ?_ (fun _ => ?_)
    · intro y0 y1 y2 y3 y4 y5 y6
      unfold spec_LocalLevel.l3
      repeat' first
      | (with_reducible exact ih0 _ _)
      | (with_reducible exact ih1 _)
      | (with_reducible exact ih2 _ _ _)
      | (with_reducible exact ih3 _ _ _ _)
      | (with_reducible exact ih4 _ _ _ _ _ _)
      | (with_reducible exact ih5 _ _ _ _ _ _ _)
      | (with_reducible exact spec_PlaceValid.mono _ _)
      | (with_reducible exact LeO.refl _)
      | (with_reducible exact LeO.none _)
      | (with_reducible refine LeO.ite ?_ ?_)
      | (with_reducible refine LeO.bind ?_ (fun _ => ?_))
      | exact ih0 _ _
      | exact ih1 _
      | exact ih2 _ _ _
      | exact ih3 _ _ _ _
      | exact ih4 _ _ _ _ _ _
      | exact ih5 _ _ _ _ _ _ _
      | exact spec_PlaceValid.mono _ _
      | exact LeO.none _
      | refine LeO.ite ?_ ?_
      | refine LeO.bind ?_ (fun _ => ?_)
theorem spec_LocalLevel.mono : ∀ a0 k, LeO (spec_LocalLevel.f k a0) (spec_LocalLevel.f (k + 1) a0) := by
  intro a0 k
  obtain ⟨ih0, ih1, ih2, ih3, ih4, ih5⟩ := spec_LocalLevel.mono_l k
  unfold spec_LocalLevel.f
  repeat' first
      | (with_reducible exact ih0 _ _)
      | (with_reducible exact ih1 _)
      | (with_reducible exact ih2 _ _ _)
      | (with_reducible exact ih3 _ _ _ _)
      | (with_reducible exact ih4 _ _ _ _ _ _)
      | (with_reducible exact ih5 _ _ _ _ _ _ _)
      | (with_reducible exact spec_PlaceValid.mono _ _)
      | (with_reducible exact LeO.refl _)
      | (with_reducible exact LeO.none _)
      | (with_reducible refine LeO.ite ?_ ?_)
      | (with_reducible refine LeO.bind ?_ (fun _ => ?_))
      | exact ih0 _ _
      | exact ih1 _
      | exact ih2 _ _ _
      | exact ih3 _ _ _ _
      | exact ih4 _ _ _ _ _ _
      | exact ih5 _ _ _ _ _ _ _
      | exact spec_PlaceValid.mono _ _
      | exact LeO.none _
      | refine LeO.ite ?_ ?_
      | refine LeO.bind ?_ (fun _ => ?_)
set_option maxHeartbeats 8000000 in
set_option maxRecDepth 100000 in
theorem spec_LocalLevel.calls (k : Nat) (a0 : Int) (r : Int) (w : World) (h : spec_LocalLevel.f k a0 = some r) :
    Calls Try.prog 39 #[.int .i64 a0] w fun e w' => e = .returned (.int .i64 r) ∧ Below w.heap.size w w' := by
  have HB := Aside0.mk (Below.refl w.heap.size w)
  have H : ((spec_PlaceValid.f k a0).bind fun t103 => (if t103 = true then (spec_LocalLevel.j0 k a0 (a0 == 0)) else (spec_LocalLevel.j0 k a0 true))) = some r := h
  clear h
  have HC2 := Aside0.mk H
  clear H
  go_enter Try.func39, Try.ntmps39
  go_upto_region 1 with (fail)
  go_cut [17] (fun v17 wc => ∃ (kq : Nat) (x17_1 : Bool), v17 = .bool x17_1 ∧ Aside0 (spec_LocalLevel.j0 kq a0 x17_1 = some r) ∧ Aside0 (kq ≤ k) ∧ Aside0 (Below w.heap.size w wc))
  case first =>
    have H := HC2.out
    clear HC2
    replace H := Option.bind_eq_some_iff.mp H
    obtain ⟨t103, A30, H⟩ := H
    replace H : (if t103 = true then (spec_LocalLevel.j0 k a0 (a0 == 0)) else (spec_LocalLevel.j0 k a0 true)) = some r := H
    have A3 := Aside0.mk A30
    clear A30
    by_cases c4 : t103 = true
    · subst c4
      have H1 : (spec_LocalLevel.j0 k a0 (a0 == 0)) = some r := by rw [if_pos rfl] at H; exact H
      clear H
      have H := H1
      clear H1
      have H' := Aside0.mk H
      clear H
      go_wp2_with (first | ((with_reducible refine gate_callee (f := 80) rfl ?_); refine goesL_ (some 12) rfl rfl Try.func80 (by kernel_rfl) rfl #[.int .i64 a0] rfl (by (try simp only [List.map_toArray, List.map_cons, List.map_nil]); first | done | rfl | (simp only [List.length_drop, List.length_take]; rfl)) ?_; (with_reducible refine (spec_PlaceValid.calls k a0 true _ A3.out).mono ?_); rintro e w' ⟨rfl, ⟨nd, rfl⟩⟩; refine ⟨_, rfl, ?_⟩))
      go_meet
      case rel => exact ⟨_, ((a0 == 0)), (by first | rfl | (simp; done) | (simp [*]; done)), H', ⟨by first | omega | exact Nat.le_refl _⟩, ⟨by repeat (first | (with_reducible first | exact HB.out | apply below_alloc | apply pw_below_drewN | apply below_drew1) | exact HB.out)⟩⟩
    · replace c4 := Bool.eq_false_iff.mpr c4
      subst c4
      have H1 : (spec_LocalLevel.j0 k a0 true) = some r := by rw [if_neg (show ¬ (false = true) by decide)] at H; exact H
      clear H
      have H := H1
      clear H1
      have H' := Aside0.mk H
      clear H
      go_wp2_with (first | ((with_reducible refine gate_callee (f := 80) rfl ?_); refine goesL_ (some 12) rfl rfl Try.func80 (by kernel_rfl) rfl #[.int .i64 a0] rfl (by (try simp only [List.map_toArray, List.map_cons, List.map_nil]); first | done | rfl | (simp only [List.length_drop, List.length_take]; rfl)) ?_; (with_reducible refine (spec_PlaceValid.calls k a0 false _ A3.out).mono ?_); rintro e w' ⟨rfl, ⟨nd, rfl⟩⟩; refine ⟨_, rfl, ?_⟩))
      go_meet
      case rel => exact ⟨_, (true), (by first | rfl | (simp; done) | (simp [*]; done)), H', ⟨by first | omega | exact Nat.le_refl _⟩, ⟨by repeat (first | (with_reducible first | exact HB.out | apply below_alloc | apply pw_below_drewN | apply below_drew1) | exact HB.out)⟩⟩
  case rest =>
    clear HC2
    try clear p2
    try clear c3
    try clear c4
    obtain ⟨kq, x17_1, rfl, HA, HJ1, HB⟩ := hcut
    cases kq with
    | zero => exact absurd HA.out (by simp [spec_LocalLevel.j0])
    | succ kj1 =>
      have H := HA.out
      clear HA
      simp only [spec_LocalLevel.j0] at H
      by_cases c5 : x17_1 = true
      · subst c5
        have H1 : (some (-1)) = some r := by rw [if_pos rfl] at H; exact H
        clear H
        have H := H1
        clear H1
        obtain rfl := Option.some.inj H
        go_wp2
        go_ret
        exact ⟨by first | rfl | (simp [errW_none, errW_some] <;> rfl) | (simp [*, errW_none, errW_some] <;> rfl), by repeat (first | (with_reducible first | exact HB.out | apply below_alloc | apply pw_below_drewN | apply below_drew1) | exact HB.out)⟩
      · replace c5 := Bool.eq_false_iff.mpr c5
        subst c5
        have H1 : (if a0 = 2 then (spec_LocalLevel.j1 kj1 16) else (spec_LocalLevel.j1 kj1 a0)) = some r := by rw [if_neg (show ¬ (false = true) by decide)] at H; exact H
        clear H
        have H := H1
        clear H1
        have HC6 := Aside0.mk H
        clear H
        go_upto_if 20 with (fail)
        go_cut [3] (fun v3 wc => ∃ (kq : Nat) (x3_5 : Int), v3 = .int .i64 x3_5 ∧ Aside0 (spec_LocalLevel.j1 kq x3_5 = some r) ∧ Aside0 (kq ≤ kj1) ∧ Aside0 (Below w.heap.size w wc))
        case first =>
          have H := HC6.out
          clear HC6
          by_cases c7 : a0 = 2
          · rw [if_pos c7] at H
            have c7b0 : (a0 == 2) = true := beq_iff_eq.mpr c7
            have c7b1 : (a0 != 2) = false := bne_eq_false_iff_eq.mpr c7
            clear c7
            (first | rw [c7b0] | (simp only [i64_w, i32_w]; rw [c7b0]) | skip)
            have H' := Aside0.mk H
            clear H
            go_wp2
            go_meet
            case rel => exact ⟨_, (16), (by first | rfl | (simp; done) | (simp [*]; done)), H', ⟨by have := HJ1.out; first | omega | exact Nat.le_refl _⟩, ⟨by repeat (first | (with_reducible first | exact HB.out | apply below_alloc | apply pw_below_drewN | apply below_drew1) | exact HB.out)⟩⟩
          · rw [if_neg c7] at H
            have c7b0 : (a0 == 2) = false := beq_eq_false_iff_ne.mpr c7
            have c7b1 : (a0 != 2) = true := bne_iff_ne.mpr c7
            (first | rw [c7b0] | (simp only [i64_w, i32_w]; rw [c7b0]) | skip)
            have H' := Aside0.mk H
            clear H
            go_wp2
            go_meet
            case rel => exact ⟨_, (a0), (by first | rfl | (simp; done) | (simp [*]; done)), H', ⟨by have := HJ1.out; first | omega | exact Nat.le_refl _⟩, ⟨by repeat (first | (with_reducible first | exact HB.out | apply below_alloc | apply pw_below_drewN | apply below_drew1) | exact HB.out)⟩⟩
        case rest =>
          clear HC6
          try clear p2
          try clear c3
          try clear c4
          try clear c5
          try clear c7
          try clear c7b0
          try clear c7b1
          try clear p2
          obtain ⟨kq, x3_5, rfl, HA, HJ5, HB⟩ := hcut
          cases kq with
          | zero => exact absurd HA.out (by simp [spec_LocalLevel.j1])
          | succ kj5 =>
            have H := HA.out
            clear HA
            simp only [spec_LocalLevel.j1] at H
            by_cases c8 : 0 ≤ x3_5
            · rw [if_pos c8] at H
              have c8b0 := eq_true c8
              have c8b1 : decide (0 ≤ x3_5) = true := decide_eq_true c8
              clear c8
              by_cases c9 : (x3_5 : Int).toNat ≤ 281474976710656
              · rw [if_pos c9] at H
                have c9b0 := eq_true c9
                have c9b1 : decide ((x3_5 : Int).toNat ≤ 281474976710656) = true := decide_eq_true c9
                clear c9
                obtain ⟨y104, hy104⟩ : ∃ y_ : List Bool, y_ = (List.replicate (x3_5 : Int).toNat false) := ⟨_, rfl⟩
                replace H : (spec_LocalLevel.l0 kj5 x3_5 y104 0) = some r := by first | (rw [hy104]; with_reducible exact H) | (have H2_ := (Option.bind_some _ _).symm.trans H; rw [hy104]; with_reducible exact H2_) | (have H2_ := (Option.bind_some _ _).symm.trans H; with_reducible exact H2_) | with_reducible exact H | (rw [hy104]; exact H) | exact H
                have Ny104 := Aside0.mk hy104
                clear hy104
                have H' := Aside0.mk H
                clear H
                go_wp2_with (first | ((with_reducible refine gate_dst (N := 22) rfl ?_); refine Kd.R_make Kd.bool _ 4 rfl (N := 22) rfl 52 _ _ rfl x3_5 rfl rfl Try.underlying52 (.bool false) 1 info4 rfl (by decide) (by omega) false (ok := fun _ => True) (okp := fun _ => True) rfl (fun _ hk => hk) trivial (of_decide_eq_true (by first | (with_reducible assumption) | assumption)) (Nat.le_trans (Nat.mul_le_mul_right _ (of_decide_eq_true (by first | (with_reducible assumption) | assumption) : x3_5.toNat ≤ 281474976710656)) (by omega)) (Below.refl _ _) (Nat.le_refl _) ?_; intro v105 w10 ho11 hb hg_ hnew_; clear hg_ hnew_; (first | rw [← Ny104.out] at ho11 | (simp only [Int.reduceToNat] at ho11; rw [← Ny104.out] at ho11)); have n0_ := Aside0.mk (Kd.R_lower ho11 (below_size (by repeat (first | (with_reducible first | exact HB.out | apply below_alloc | apply pw_below_drewN | apply below_drew1) | exact HB.out)))); have n1_ := Aside0.mk (below_step (by repeat (first | (with_reducible first | exact HB.out | apply below_alloc | apply pw_below_drewN | apply below_drew1) | exact HB.out)) hb); clear HB; have HO106 := n0_; have HB := n1_; clear n0_ n1_; clear hb ho11))
                go_loopg [5] kj5 (fun kq v5 w' => ∃ (x4_3 : List Bool) (x5_3 : Int), v5 = .int .i64 x5_3 ∧ Aside0 (spec_LocalLevel.l0 kq x3_5 x4_3 x5_3 = some r) ∧ Aside0 (kq ≤ kj5) ∧ Aside0 (Kd.R Kd.bool 4 w' w.heap.size (fun _ => True) v105 x4_3) ∧ Aside0 (Below w.heap.size w w'))
                case atStart => exact ⟨(y104), (0), (by first | rfl | (simp; done) | (simp [*]; done)), H', ⟨Nat.le_refl _⟩, ⟨by (with_reducible repeat (first | apply Kd.R_alloc | apply Kd.R_drewN | apply Kd.R_drew)); exact HO106.out⟩, ⟨by repeat (first | (with_reducible first | exact HB.out | apply below_alloc | apply pw_below_drewN | apply below_drew1) | exact HB.out)⟩⟩
                case round =>
                  clear H'
                  try clear p2
                  try clear c3
                  try clear c4
                  try clear c5
                  try clear c7
                  try clear c7b0
                  try clear c7b1
                  try clear c8
                  try clear c8b0
                  try clear c8b1
                  try clear c9
                  try clear c9b0
                  try clear c9b1
                  try clear p2
                  obtain ⟨x4_3, x5_3, rfl, HA, HK3, HO_4, HB⟩ := hrel
                  cases gk with
                  | zero => exact absurd HA.out (by simp [spec_LocalLevel.l0])
                  | succ k3 =>
                    have H := HA.out
                    clear HA
                    simp only [spec_LocalLevel.l0] at H
                    by_cases c12 : x5_3 < x3_5
                    · rw [if_pos c12] at H
                      have c12b0 : decide (x5_3 < x3_5) = true := decide_eq_true c12
                      clear c12
                      by_cases c13 : x3_5 = 0
                      · rw [if_pos c13] at H
                        exact absurd H (by simp)
                      · rw [if_neg c13] at H
                        have c13b0 : (x3_5 == 0) = false := beq_eq_false_iff_ne.mpr c13
                        have c13b1 : (x3_5 != 0) = true := bne_iff_ne.mpr c13
                        obtain ⟨ji14, hji14⟩ : ∃ j_ : Int, (Int.tmod (wrap64 (x5_3 * x5_3)) x3_5) = j_ := ⟨_, rfl⟩
                        replace H : (if 0 ≤ (ji14) then (if (ji14) < (x4_3.length : Int) then (spec_LocalLevel.l0 k3 x3_5 (x4_3.set ((ji14) : Int).toNat true) (wrap64 (x5_3 + 1))) else (none)) else (none)) = some r := by first | (rw [hji14] at H; exact H) | (simp only [hji14] at H ⊢; exact H)
                        by_cases c15 : 0 ≤ (ji14)
                        · rw [if_pos c15] at H
                          have c15b0 : decide (0 ≤ (ji14)) = true := decide_eq_true c15
                          clear c15
                          by_cases c16 : (ji14) < (x4_3.length : Int)
                          · rw [if_pos c16] at H
                            have c16b0 : decide ((ji14) < (x4_3.length : Int)) = true := decide_eq_true c16
                            clear c16
                            obtain ⟨y107, hy107⟩ : ∃ y_ : List Bool, y_ = (x4_3.set ((ji14) : Int).toNat true) := ⟨_, rfl⟩
                            replace H : (spec_LocalLevel.l0 k3 x3_5 y107 (wrap64 (x5_3 + 1))) = some r := by first | (rw [hy107]; with_reducible exact H) | (have H2_ := (Option.bind_some _ _).symm.trans H; rw [hy107]; with_reducible exact H2_) | (have H2_ := (Option.bind_some _ _).symm.trans H; with_reducible exact H2_) | with_reducible exact H | (rw [hy107]; exact H) | exact H
                            have Ny107 := Aside0.mk hy107
                            clear hy107
                            have H' := Aside0.mk H
                            clear H
                            have p17 : 0 ≤ ((ji14) : Int) := of_decide_eq_true (by first | (with_reducible assumption) | assumption)
                            have q17 : ((ji14) : Int) < ((x4_3.length : Int) : Int) := of_decide_eq_true (by first | (with_reducible assumption) | assumption)
                            obtain ⟨go17, co17, eo17, gb17, gl17, cl17, HG17⟩ := Kd.R_form HO_4.out (by omega)
                            (first | cases eo17 | (injection eo17 with ea_ en_ ec_; (first | subst ea_ | (injection ea_ with ea_; subst ea_)); subst ec_; clear en_))
                            have GB17 := Aside0.mk gb17
                            have GG17 := Aside0.mk HG17
                            clear gb17 gl17 HG17
                            obtain ⟨hx17_0, hf17_0⟩ := Kd.R_celln false HO_4.out ((ji14) : Int) p17 q17
                            replace p17 := eq_true p17
                            replace q17 := eq_true q17
                            have HP18 := Kd.R_putg HO_4.out ((ji14) : Int) true
                            go_wp2_with (first | ((with_reducible refine gate_store (t := 4) (p := 34) rfl ?_); refine store_event (t := 4) (p := 34) (v := ?vo_w19) (w1 := (wr.setCell ⟨go17, ((ji14) : Int).toNat, none⟩ (.bool true))) ?hg ?ho ?hn ?hr ?_; (case ho => rfl); (case hg => rfl); (case hn => rfl); (case hr => first | (go_simp; done) | (go_simp; rfl)); intro w19 hw; have hg : wr.grownBy w19 (some go17) := (by rw [hw]; exact HP18.2); have hp_ : Kd.R Kd.bool 4 w19 w.heap.size (fun _ => True) (.slice (some ⟨go17, 0, none⟩) x4_3.length co17) y107 := (by rw [hw, Ny107.out]; exact HP18.1); clear HP18; have n0_ := Aside0.mk (hp_); have n1_ := Aside0.mk ((by rw [hw]; exact below_set (HB.out) GB17.out : Below w.heap.size w w19)); clear HO_4; clear HB; have HO_4 := n0_; have HB := n1_; clear n0_ n1_; clear hg hw hp_))
                            go_roundg k3
                            case measure => have := HJ1.out; have := HJ5.out; have := HK3.out; omega
                            case rel => exact ⟨(y107), (wrap64 (x5_3 + 1)), (by first | rfl | (simp; done) | (simp [*]; done)), H', ⟨by have := HJ1.out; have := HJ5.out; have := HK3.out; omega⟩, ⟨by (with_reducible repeat (first | apply Kd.R_alloc | apply Kd.R_drewN | apply Kd.R_drew)); exact HO_4.out⟩, ⟨by repeat (first | (with_reducible first | exact HB.out | apply below_alloc | apply pw_below_drewN | apply below_drew1) | exact HB.out)⟩⟩
                          · rw [if_neg c16] at H
                            exact absurd H (by simp)
                        · rw [if_neg c15] at H
                          exact absurd H (by simp)
                    · rw [if_neg c12] at H
                      have c12b0 : decide (x5_3 < x3_5) = false := decide_eq_false c12
                      clear c12
                      have H' := Aside0.mk H
                      clear H
                      go_wp2
                      go_loopg [6, 7] k3 (fun kq v6 v7 w' => ∃ (x4_4 : List Bool) (x6_4 : List Bool) (x7_4 : Int), v7 = .int .i64 x7_4 ∧ Aside0 (spec_LocalLevel.l1 kq x3_5 x4_4 x6_4 x7_4 = some r) ∧ Aside0 (kq ≤ k3) ∧ Aside0 (Kd.R Kd.bool 4 w' w.heap.size (fun _ => True) v105 x4_4) ∧ Aside0 (Kd.R Kd.bool 4 w' w.heap.size (fun _ => True) v6 x6_4) ∧ Aside0 (Below w.heap.size w w'))
                      case atStart => exact ⟨(x4_3), (x4_3), (1), (by first | rfl | (simp; done) | (simp [*]; done)), H', ⟨Nat.le_refl _⟩, ⟨by (with_reducible repeat (first | apply Kd.R_alloc | apply Kd.R_drewN | apply Kd.R_drew)); exact HO_4.out⟩, ⟨by (with_reducible repeat (first | apply Kd.R_alloc | apply Kd.R_drewN | apply Kd.R_drew)); exact HO_4.out⟩, ⟨by repeat (first | (with_reducible first | exact HB.out | apply below_alloc | apply pw_below_drewN | apply below_drew1) | exact HB.out)⟩⟩
                      case round =>
                        clear H'
                        try clear c1
                        try clear p1
                        try clear q1
                        try clear hx1
                        try clear hf1
                        try clear p2
                        try clear c3
                        try clear c4
                        try clear c5
                        try clear p6
                        try clear c7
                        try clear c7b0
                        try clear c7b1
                        try clear c8
                        try clear c8b0
                        try clear c8b1
                        try clear c9
                        try clear c9b0
                        try clear c9b1
                        try clear c12
                        try clear c12b0
                        try clear c13
                        try clear c13b0
                        try clear c13b1
                        try clear c15
                        try clear c15b0
                        try clear c16
                        try clear c16b0
                        try clear p17
                        try clear q17
                        try clear hx17
                        try clear hf17
                        try clear hx17_0
                        try clear p17
                        try clear p2
                        try clear q17
                        obtain ⟨x4_4, x6_4, x7_4, rfl, HA, HK4, HO_4, HO_6, HB⟩ := hrel
                        cases gk with
                        | zero => exact absurd HA.out (by simp [spec_LocalLevel.l1])
                        | succ k4 =>
                          have H := HA.out
                          clear HA
                          simp only [spec_LocalLevel.l1] at H
                          obtain ⟨ji20, hji20⟩ : ∃ j_ : Int, (wrap64 (x3_5 - 1)) = j_ := ⟨_, rfl⟩
                          replace H : (if 0 ≤ (ji20) then (if (ji20) < (x6_4.length : Int) then (if (rdOf false x6_4 (ji20) = true) then (some x7_4) else (if 0 ≤ x3_5 then (if (x3_5 : Int).toNat ≤ 281474976710656 then (spec_LocalLevel.l2 k4 x3_5 x4_4 x6_4 x7_4 (List.replicate (x3_5 : Int).toNat false) 0) else (none)) else (none))) else (none)) else (none)) = some r := by first | (rw [hji20] at H; exact H) | (simp only [hji20] at H ⊢; exact H)
                          have hji20w : (IntKind.i64.wrap (x3_5 - 1)) = ji20 := (i64_w _).trans hji20
                          by_cases c21 : 0 ≤ (ji20)
                          · rw [if_pos c21] at H
                            have c21b0 : decide (0 ≤ (ji20)) = true := decide_eq_true c21
                            clear c21
                            by_cases c22 : (ji20) < (x6_4.length : Int)
                            · rw [if_pos c22] at H
                              have c22b0 : decide ((ji20) < (x6_4.length : Int)) = true := decide_eq_true c22
                              clear c22
                              obtain ⟨bq23, hbq23⟩ : ∃ b_ : Bool, b_ = (rdOf false x6_4 (ji20)) := ⟨_, rfl⟩
                              replace H : (if (bq23 = true) then (some x7_4) else (if 0 ≤ x3_5 then (if (x3_5 : Int).toNat ≤ 281474976710656 then (spec_LocalLevel.l2 k4 x3_5 x4_4 x6_4 x7_4 (List.replicate (x3_5 : Int).toNat false) 0) else (none)) else (none))) = some r := by rw [← hbq23] at H; exact H
                              have Nbq23 := Aside0.mk hbq23
                              clear hbq23
                              by_cases c24 : (bq23 = true)
                              · subst c24
                                have H1 : (some x7_4) = some r := by rw [if_pos rfl] at H; exact H
                                clear H
                                have H := H1
                                clear H1
                                obtain rfl := Option.some.inj H
                                obtain ⟨Ao25, co25, eo25⟩ := Kd.R_slice HO_6.out
                                subst eo25
                                have p108 : 0 ≤ ((ji20) : Int) := of_decide_eq_true (by first | (with_reducible assumption) | assumption)
                                have q108 : (ji20) < (x6_4.length : Int) := of_decide_eq_true (by first | (with_reducible assumption) | assumption)
                                obtain ⟨ad108, e108, hx108_0⟩ := Kd.at_bool (Kd.R_reads' HO_6.out).2.2 (ji20) p108 q108
                                (try rw [← Nbq23.out] at hx108_0)
                                cases e108
                                replace p108 := eq_true p108
                                replace q108 := eq_true q108
                                go_wp2
                                go_ret
                                exact ⟨by first | rfl | (simp [errW_none, errW_some] <;> rfl) | (simp only [← hji20]; first | rfl | (simp [errW_none, errW_some] <;> rfl)) | (simp [*, errW_none, errW_some] <;> rfl), by repeat (first | (with_reducible first | exact HB.out | apply below_alloc | apply pw_below_drewN | apply below_drew1) | exact HB.out)⟩
                              · replace c24 := Bool.eq_false_iff.mpr c24
                                subst c24
                                have H1 : (if 0 ≤ x3_5 then (if (x3_5 : Int).toNat ≤ 281474976710656 then (spec_LocalLevel.l2 k4 x3_5 x4_4 x6_4 x7_4 (List.replicate (x3_5 : Int).toNat false) 0) else (none)) else (none)) = some r := by rw [if_neg (show ¬ (false = true) by decide)] at H; exact H
                                clear H
                                have H := H1
                                clear H1
                                by_cases c26 : 0 ≤ x3_5
                                · rw [if_pos c26] at H
                                  have c26b0 := eq_true c26
                                  have c26b1 : decide (0 ≤ x3_5) = true := decide_eq_true c26
                                  clear c26
                                  by_cases c27 : (x3_5 : Int).toNat ≤ 281474976710656
                                  · rw [if_pos c27] at H
                                    have c27b0 := eq_true c27
                                    have c27b1 : decide ((x3_5 : Int).toNat ≤ 281474976710656) = true := decide_eq_true c27
                                    clear c27
                                    obtain ⟨y109, hy109⟩ : ∃ y_ : List Bool, y_ = (List.replicate (x3_5 : Int).toNat false) := ⟨_, rfl⟩
                                    replace H : (spec_LocalLevel.l2 k4 x3_5 x4_4 x6_4 x7_4 y109 0) = some r := by first | (rw [hy109]; with_reducible exact H) | (have H2_ := (Option.bind_some _ _).symm.trans H; rw [hy109]; with_reducible exact H2_) | (have H2_ := (Option.bind_some _ _).symm.trans H; with_reducible exact H2_) | with_reducible exact H | (rw [hy109]; exact H) | exact H
                                    have Ny109 := Aside0.mk hy109
                                    clear hy109
                                    have H' := Aside0.mk H
                                    clear H
                                    obtain ⟨Ao28, co28, eo28⟩ := Kd.R_slice HO_6.out
                                    subst eo28
                                    have p108 : 0 ≤ ((ji20) : Int) := of_decide_eq_true (by first | (with_reducible assumption) | assumption)
                                    have q108 : (ji20) < (x6_4.length : Int) := of_decide_eq_true (by first | (with_reducible assumption) | assumption)
                                    obtain ⟨ad108, e108, hx108_0⟩ := Kd.at_bool (Kd.R_reads' HO_6.out).2.2 (ji20) p108 q108
                                    (try rw [← Nbq23.out] at hx108_0)
                                    cases e108
                                    replace p108 := eq_true p108
                                    replace q108 := eq_true q108
                                    go_wp2_with (first | ((with_reducible refine gate_dst (N := 43) rfl ?_); refine Kd.R_make Kd.bool _ 4 rfl (N := 43) rfl 52 _ _ rfl x3_5 rfl rfl Try.underlying52 (.bool false) 1 info4 rfl (by decide) (by omega) false (ok := fun _ => True) (okp := fun _ => True) rfl (fun _ hk => hk) trivial (of_decide_eq_true (by first | (with_reducible assumption) | assumption)) (Nat.le_trans (Nat.mul_le_mul_right _ (of_decide_eq_true (by first | (with_reducible assumption) | assumption) : x3_5.toNat ≤ 281474976710656)) (by omega)) (Below.refl _ _) (Nat.le_refl _) ?_; intro v110 w29 ho30 hb hg_ hnew_; clear hg_ hnew_; (first | rw [← Ny109.out] at ho30 | (simp only [Int.reduceToNat] at ho30; rw [← Ny109.out] at ho30)); have n0_ := Aside0.mk (Kd.R_elder' (by (with_reducible repeat (first | apply Kd.R_alloc | apply Kd.R_drewN | apply Kd.R_drew)); exact HO_4.out) (Kd.R_base ho30) hb); have n1_ := Aside0.mk (Kd.R_elder' (by (with_reducible repeat (first | apply Kd.R_alloc | apply Kd.R_drewN | apply Kd.R_drew)); exact HO_6.out) (Kd.R_base ho30) hb); have n2_ := Aside0.mk (Kd.R_lower (Kd.R_new' (Kd.R_new' ho30 (Kd.R_lt (by (with_reducible repeat (first | apply Kd.R_alloc | apply Kd.R_drewN | apply Kd.R_drew)); exact HO_4.out))) (Kd.R_lt (by (with_reducible repeat (first | apply Kd.R_alloc | apply Kd.R_drewN | apply Kd.R_drew)); exact HO_6.out))) (below_size (by repeat (first | (with_reducible first | exact HB.out | apply below_alloc | apply pw_below_drewN | apply below_drew1) | exact HB.out)))); have n3_ := Aside0.mk (below_step (by repeat (first | (with_reducible first | exact HB.out | apply below_alloc | apply pw_below_drewN | apply below_drew1) | exact HB.out)) hb); clear HO_4; clear HO_6; clear HB; have HO_4 := n0_; have HO_6 := n1_; have HO111 := n2_; have HB := n3_; clear n0_ n1_ n2_ n3_; clear hb ho30))
                                    go_loopg [9] k4 (fun kq v9 w' => ∃ (x8_5 : List Bool) (x9_5 : Int), v9 = .int .i64 x9_5 ∧ Aside0 (spec_LocalLevel.l2 kq x3_5 x4_4 x6_4 x7_4 x8_5 x9_5 = some r) ∧ Aside0 (kq ≤ k4) ∧ Aside0 (Kd.R Kd.bool 4 w' w.heap.size (fun k_ => some k_ ≠ (v110 : Value).ownBlock) v105 x4_4) ∧ Aside0 (Kd.R Kd.bool 4 w' w.heap.size (fun k_ => some k_ ≠ (v110 : Value).ownBlock) (.slice (some ad108) x6_4.length co28) x6_4) ∧ Aside0 (Kd.R Kd.bool 4 w' w.heap.size (fun k_ => some k_ ≠ (v105 : Value).ownBlock ∧ some k_ ≠ ((.slice (some ad108) x6_4.length co28) : Value).ownBlock) v110 x8_5) ∧ Aside0 (Below w.heap.size w w'))
                                    case atStart => exact ⟨(y109), (0), (by first | rfl | (simp; done) | (simp [*]; done)), H', ⟨Nat.le_refl _⟩, ⟨by (with_reducible repeat (first | apply Kd.R_alloc | apply Kd.R_drewN | apply Kd.R_drew)); exact Kd.R_mono HO_4.out (fun _ hk => hk.2)⟩, ⟨by (with_reducible repeat (first | apply Kd.R_alloc | apply Kd.R_drewN | apply Kd.R_drew)); exact Kd.R_mono HO_6.out (fun _ hk => hk.2)⟩, ⟨by (with_reducible repeat (first | apply Kd.R_alloc | apply Kd.R_drewN | apply Kd.R_drew)); exact Kd.R_mono HO111.out (fun _ hk => ⟨hk.1.2, hk.2⟩)⟩, ⟨by repeat (first | (with_reducible first | exact HB.out | apply below_alloc | apply pw_below_drewN | apply below_drew1) | exact HB.out)⟩⟩
                                    case round =>
                                      clear H'
                                      try clear c1
                                      try clear p1
                                      try clear q1
                                      try clear hx1
                                      try clear hf1
                                      try clear c2
                                      try clear p2
                                      try clear q2
                                      try clear c3
                                      try clear c4
                                      try clear c5
                                      try clear p6
                                      try clear c7
                                      try clear c7b0
                                      try clear c7b1
                                      try clear c8
                                      try clear c8b0
                                      try clear c8b1
                                      try clear c9
                                      try clear c9b0
                                      try clear c9b1
                                      try clear p10
                                      try clear q10
                                      try clear hx10
                                      try clear c12
                                      try clear c12b0
                                      try clear c13
                                      try clear c13b0
                                      try clear c13b1
                                      try clear c15
                                      try clear c15b0
                                      try clear c16
                                      try clear c16b0
                                      try clear p17
                                      try clear q17
                                      try clear hx17
                                      try clear hf17
                                      try clear c21
                                      try clear c21b0
                                      try clear c22
                                      try clear c22b0
                                      try clear q23
                                      try clear c24
                                      try clear c26
                                      try clear c26b0
                                      try clear c26b1
                                      try clear c27
                                      try clear c27b0
                                      try clear c27b1
                                      try clear hx108_0
                                      try clear hx17_0
                                      try clear p1
                                      try clear p108
                                      try clear p17
                                      try clear p2
                                      try clear p6
                                      try clear q1
                                      try clear q108
                                      try clear q17
                                      obtain ⟨x8_5, x9_5, rfl, HA, HK5, HO_4, HO_6, HO_8, HB⟩ := hrel
                                      cases gk with
                                      | zero => exact absurd HA.out (by simp [spec_LocalLevel.l2])
                                      | succ k5 =>
                                        have H := HA.out
                                        clear HA
                                        simp only [spec_LocalLevel.l2] at H
                                        by_cases c31 : x9_5 < x3_5
                                        · rw [if_pos c31] at H
                                          have c31b0 : decide (x9_5 < x3_5) = true := decide_eq_true c31
                                          clear c31
                                          have H' := Aside0.mk H
                                          clear H
                                          go_wp2
                                          go_loopg [10] k5 (fun kq v10 w' => ∃ (x8_6 : List Bool) (x10_6 : Int), v10 = .int .i64 x10_6 ∧ Aside0 (spec_LocalLevel.l3 kq x3_5 x4_4 x6_4 x7_4 x8_6 x9_5 x10_6 = some r) ∧ Aside0 (kq ≤ k5) ∧ Aside0 (Kd.R Kd.bool 4 w' w.heap.size (fun k_ => some k_ ≠ (v110 : Value).ownBlock) v105 x4_4) ∧ Aside0 (Kd.R Kd.bool 4 w' w.heap.size (fun k_ => some k_ ≠ (v110 : Value).ownBlock) (.slice (some ad108) x6_4.length co28) x6_4) ∧ Aside0 (Kd.R Kd.bool 4 w' w.heap.size (fun k_ => some k_ ≠ (v105 : Value).ownBlock ∧ some k_ ≠ ((.slice (some ad108) x6_4.length co28) : Value).ownBlock) v110 x8_6) ∧ Aside0 (Below w.heap.size w w'))
                                          case atStart => exact ⟨(x8_5), (0), (by first | rfl | (simp; done) | (simp [*]; done)), H', ⟨Nat.le_refl _⟩, ⟨by (with_reducible repeat (first | apply Kd.R_alloc | apply Kd.R_drewN | apply Kd.R_drew)); exact HO_4.out⟩, ⟨by (with_reducible repeat (first | apply Kd.R_alloc | apply Kd.R_drewN | apply Kd.R_drew)); exact HO_6.out⟩, ⟨by (with_reducible repeat (first | apply Kd.R_alloc | apply Kd.R_drewN | apply Kd.R_drew)); exact HO_8.out⟩, ⟨by repeat (first | (with_reducible first | exact HB.out | apply below_alloc | apply pw_below_drewN | apply below_drew1) | exact HB.out)⟩⟩
                                          case round =>
                                            clear H'
                                            try clear c1
                                            try clear p1
                                            try clear q1
                                            try clear hx1
                                            try clear hf1
                                            try clear c2
                                            try clear p2
                                            try clear q2
                                            try clear c3
                                            try clear c4
                                            try clear c5
                                            try clear p6
                                            try clear c7
                                            try clear c7b0
                                            try clear c7b1
                                            try clear c8
                                            try clear c8b0
                                            try clear c8b1
                                            try clear c9
                                            try clear c9b0
                                            try clear c9b1
                                            try clear p10
                                            try clear q10
                                            try clear hx10
                                            try clear c12
                                            try clear c12b0
                                            try clear c13
                                            try clear c13b0
                                            try clear c13b1
                                            try clear c15
                                            try clear c15b0
                                            try clear c16
                                            try clear c16b0
                                            try clear p17
                                            try clear q17
                                            try clear hx17
                                            try clear hf17
                                            try clear c21
                                            try clear c21b0
                                            try clear c22
                                            try clear c22b0
                                            try clear q23
                                            try clear c24
                                            try clear c26
                                            try clear c26b0
                                            try clear c26b1
                                            try clear c27
                                            try clear c27b0
                                            try clear c27b1
                                            try clear c31
                                            try clear c31b0
                                            try clear hx108_0
                                            try clear hx17_0
                                            try clear p1
                                            try clear p10
                                            try clear p108
                                            try clear p17
                                            try clear p2
                                            try clear p6
                                            try clear q1
                                            try clear q10
                                            try clear q108
                                            try clear q17
                                            try clear q2
                                            try clear q23
                                            obtain ⟨x8_6, x10_6, rfl, HA, HK6, HO_4, HO_6, HO_8, HB⟩ := hrel
                                            cases gk with
                                            | zero => exact absurd HA.out (by simp [spec_LocalLevel.l3])
                                            | succ k6 =>
                                              have H := HA.out
                                              clear HA
                                              simp only [spec_LocalLevel.l3] at H
                                              by_cases c32 : x10_6 < x3_5
                                              · rw [if_pos c32] at H
                                                have c32b0 : decide (x10_6 < x3_5) = true := decide_eq_true c32
                                                clear c32
                                                by_cases c33 : 0 ≤ x9_5
                                                · rw [if_pos c33] at H
                                                  have c33b0 : decide (0 ≤ x9_5) = true := decide_eq_true c33
                                                  clear c33
                                                  by_cases c34 : x9_5 < (x6_4.length : Int)
                                                  · rw [if_pos c34] at H
                                                    have c34b0 : decide (x9_5 < (x6_4.length : Int)) = true := decide_eq_true c34
                                                    clear c34
                                                    obtain ⟨bq35, hbq35⟩ : ∃ b_ : Bool, b_ = (rdOf false x6_4 x9_5) := ⟨_, rfl⟩
                                                    replace H : (if bq35 = true then (if 0 ≤ x10_6 then (if x10_6 < (x4_4.length : Int) then (if rdOf false x4_4 x10_6 = true then (if x3_5 = 0 then (none) else (if 0 ≤ (Int.tmod (wrap64 (x9_5 + x10_6)) x3_5) then (if (Int.tmod (wrap64 (x9_5 + x10_6)) x3_5) < (x8_6.length : Int) then (spec_LocalLevel.l3 k6 x3_5 x4_4 x6_4 x7_4 (x8_6.set ((Int.tmod (wrap64 (x9_5 + x10_6)) x3_5) : Int).toNat true) x9_5 (wrap64 (x10_6 + 1))) else (none)) else (none))) else (spec_LocalLevel.l3 k6 x3_5 x4_4 x6_4 x7_4 x8_6 x9_5 (wrap64 (x10_6 + 1)))) else (none)) else (none)) else (spec_LocalLevel.l3 k6 x3_5 x4_4 x6_4 x7_4 x8_6 x9_5 (wrap64 (x10_6 + 1)))) = some r := by rw [← hbq35] at H; exact H
                                                    have Nbq35 := Aside0.mk hbq35
                                                    clear hbq35
                                                    by_cases c36 : bq35 = true
                                                    · subst c36
                                                      have H1 : (if 0 ≤ x10_6 then (if x10_6 < (x4_4.length : Int) then (if rdOf false x4_4 x10_6 = true then (if x3_5 = 0 then (none) else (if 0 ≤ (Int.tmod (wrap64 (x9_5 + x10_6)) x3_5) then (if (Int.tmod (wrap64 (x9_5 + x10_6)) x3_5) < (x8_6.length : Int) then (spec_LocalLevel.l3 k6 x3_5 x4_4 x6_4 x7_4 (x8_6.set ((Int.tmod (wrap64 (x9_5 + x10_6)) x3_5) : Int).toNat true) x9_5 (wrap64 (x10_6 + 1))) else (none)) else (none))) else (spec_LocalLevel.l3 k6 x3_5 x4_4 x6_4 x7_4 x8_6 x9_5 (wrap64 (x10_6 + 1)))) else (none)) else (none)) = some r := by rw [if_pos rfl] at H; exact H
                                                      clear H
                                                      have H := H1
                                                      clear H1
                                                      by_cases c37 : 0 ≤ x10_6
                                                      · rw [if_pos c37] at H
                                                        have c37b0 : decide (0 ≤ x10_6) = true := decide_eq_true c37
                                                        clear c37
                                                        by_cases c38 : x10_6 < (x4_4.length : Int)
                                                        · rw [if_pos c38] at H
                                                          have c38b0 : decide (x10_6 < (x4_4.length : Int)) = true := decide_eq_true c38
                                                          clear c38
                                                          obtain ⟨bq39, hbq39⟩ : ∃ b_ : Bool, b_ = (rdOf false x4_4 x10_6) := ⟨_, rfl⟩
                                                          replace H : (if bq39 = true then (if x3_5 = 0 then (none) else (if 0 ≤ (Int.tmod (wrap64 (x9_5 + x10_6)) x3_5) then (if (Int.tmod (wrap64 (x9_5 + x10_6)) x3_5) < (x8_6.length : Int) then (spec_LocalLevel.l3 k6 x3_5 x4_4 x6_4 x7_4 (x8_6.set ((Int.tmod (wrap64 (x9_5 + x10_6)) x3_5) : Int).toNat true) x9_5 (wrap64 (x10_6 + 1))) else (none)) else (none))) else (spec_LocalLevel.l3 k6 x3_5 x4_4 x6_4 x7_4 x8_6 x9_5 (wrap64 (x10_6 + 1)))) = some r := by rw [← hbq39] at H; exact H
                                                          have Nbq39 := Aside0.mk hbq39
                                                          clear hbq39
                                                          by_cases c40 : bq39 = true
                                                          · subst c40
                                                            have H1 : (if x3_5 = 0 then (none) else (if 0 ≤ (Int.tmod (wrap64 (x9_5 + x10_6)) x3_5) then (if (Int.tmod (wrap64 (x9_5 + x10_6)) x3_5) < (x8_6.length : Int) then (spec_LocalLevel.l3 k6 x3_5 x4_4 x6_4 x7_4 (x8_6.set ((Int.tmod (wrap64 (x9_5 + x10_6)) x3_5) : Int).toNat true) x9_5 (wrap64 (x10_6 + 1))) else (none)) else (none))) = some r := by rw [if_pos rfl] at H; exact H
                                                            clear H
                                                            have H := H1
                                                            clear H1
                                                            by_cases c41 : x3_5 = 0
                                                            · rw [if_pos c41] at H
                                                              exact absurd H (by simp)
                                                            · rw [if_neg c41] at H
                                                              have c41b0 : (x3_5 == 0) = false := beq_eq_false_iff_ne.mpr c41
                                                              have c41b1 : (x3_5 != 0) = true := bne_iff_ne.mpr c41
                                                              obtain ⟨ji42, hji42⟩ : ∃ j_ : Int, (Int.tmod (wrap64 (x9_5 + x10_6)) x3_5) = j_ := ⟨_, rfl⟩
                                                              replace H : (if 0 ≤ (ji42) then (if (ji42) < (x8_6.length : Int) then (spec_LocalLevel.l3 k6 x3_5 x4_4 x6_4 x7_4 (x8_6.set ((ji42) : Int).toNat true) x9_5 (wrap64 (x10_6 + 1))) else (none)) else (none)) = some r := by first | (rw [hji42] at H; exact H) | (simp only [hji42] at H ⊢; exact H)
                                                              by_cases c43 : 0 ≤ (ji42)
                                                              · rw [if_pos c43] at H
                                                                have c43b0 : decide (0 ≤ (ji42)) = true := decide_eq_true c43
                                                                clear c43
                                                                by_cases c44 : (ji42) < (x8_6.length : Int)
                                                                · rw [if_pos c44] at H
                                                                  have c44b0 : decide ((ji42) < (x8_6.length : Int)) = true := decide_eq_true c44
                                                                  clear c44
                                                                  obtain ⟨y114, hy114⟩ : ∃ y_ : List Bool, y_ = (x8_6.set ((ji42) : Int).toNat true) := ⟨_, rfl⟩
                                                                  replace H : (spec_LocalLevel.l3 k6 x3_5 x4_4 x6_4 x7_4 y114 x9_5 (wrap64 (x10_6 + 1))) = some r := by first | (rw [hy114]; with_reducible exact H) | (have H2_ := (Option.bind_some _ _).symm.trans H; rw [hy114]; with_reducible exact H2_) | (have H2_ := (Option.bind_some _ _).symm.trans H; with_reducible exact H2_) | with_reducible exact H | (rw [hy114]; exact H) | exact H
                                                                  have Ny114 := Aside0.mk hy114
                                                                  clear hy114
                                                                  have H' := Aside0.mk H
                                                                  clear H
                                                                  have p112 : 0 ≤ (x9_5 : Int) := of_decide_eq_true (by first | (with_reducible assumption) | assumption)
                                                                  have q112 : x9_5 < (x6_4.length : Int) := of_decide_eq_true (by first | (with_reducible assumption) | assumption)
                                                                  obtain ⟨ad112, e112, hx112_0⟩ := Kd.at_bool (Kd.R_reads' HO_6.out).2.2 x9_5 p112 q112
                                                                  (try rw [← Nbq23.out] at hx112_0)
                                                                  (try rw [← Nbq35.out] at hx112_0)
                                                                  (try rw [← Nbq39.out] at hx112_0)
                                                                  obtain rfl : ad108 = ad112 := (by injection e112)
                                                                  replace p112 := eq_true p112
                                                                  replace q112 := eq_true q112
                                                                  obtain ⟨Ao46, co46, eo46⟩ := Kd.R_slice HO_4.out
                                                                  subst eo46
                                                                  have p113 : 0 ≤ (x10_6 : Int) := of_decide_eq_true (by first | (with_reducible assumption) | assumption)
                                                                  have q113 : x10_6 < (x4_4.length : Int) := of_decide_eq_true (by first | (with_reducible assumption) | assumption)
                                                                  obtain ⟨ad113, e113, hx113_0⟩ := Kd.at_bool (Kd.R_reads' HO_4.out).2.2 x10_6 p113 q113
                                                                  (try rw [← Nbq23.out] at hx113_0)
                                                                  (try rw [← Nbq35.out] at hx113_0)
                                                                  (try rw [← Nbq39.out] at hx113_0)
                                                                  cases e113
                                                                  replace p113 := eq_true p113
                                                                  replace q113 := eq_true q113
                                                                  have p45 : 0 ≤ ((ji42) : Int) := of_decide_eq_true (by first | (with_reducible assumption) | assumption)
                                                                  have q45 : ((ji42) : Int) < ((x8_6.length : Int) : Int) := of_decide_eq_true (by first | (with_reducible assumption) | assumption)
                                                                  obtain ⟨go45, co45, eo45, gb45, gl45, cl45, HG45⟩ := Kd.R_form HO_8.out (by omega)
                                                                  (first | cases eo45 | (injection eo45 with ea_ en_ ec_; (first | subst ea_ | (injection ea_ with ea_; subst ea_)); subst ec_; clear en_))
                                                                  have GB45 := Aside0.mk gb45
                                                                  have GG45 := Aside0.mk HG45
                                                                  clear gb45 gl45 HG45
                                                                  obtain ⟨hx45_0, hf45_0⟩ := Kd.R_celln false HO_8.out ((ji42) : Int) p45 q45
                                                                  replace p45 := eq_true p45
                                                                  replace q45 := eq_true q45
                                                                  have HP47 := Kd.R_putg HO_8.out ((ji42) : Int) true
                                                                  go_wp2_with (first | ((with_reducible refine gate_store (t := 4) (p := 70) rfl ?_); refine store_event (t := 4) (p := 70) (v := ?vo_w48) (w1 := (wr.setCell ⟨go45, ((ji42) : Int).toNat, none⟩ (.bool true))) ?hg ?ho ?hn ?hr ?_; (case ho => rfl); (case hg => rfl); (case hn => rfl); (case hr => first | (go_simp; done) | (go_simp; rfl)); intro w48 hw; have hg : wr.grownBy w48 (some go45) := (by rw [hw]; exact HP47.2); have hp_ : Kd.R Kd.bool 4 w48 w.heap.size (fun k_ => some k_ ≠ (.slice (some ad113) x4_4.length co46 : Value).ownBlock ∧ some k_ ≠ (.slice (some ad108) x6_4.length co28 : Value).ownBlock) (.slice (some ⟨go45, 0, none⟩) x8_6.length co45) y114 := (by rw [hw, Ny114.out]; exact HP47.1); clear HP47; have n0_ := Aside0.mk (Kd.R_after (v := (.slice (some ⟨go45, 0, none⟩) x8_6.length co45)) (v1 := (.slice (some ⟨go45, 0, none⟩) x8_6.length co45)) (ok := (fun _ => True)) (by (with_reducible repeat (first | apply Kd.R_alloc | apply Kd.R_drewN | apply Kd.R_drew)); exact Kd.R_mono HO_4.out (fun _ hk => ⟨trivial, hk⟩)) hg (.inl rfl)); have n1_ := Aside0.mk (Kd.R_after (v := (.slice (some ⟨go45, 0, none⟩) x8_6.length co45)) (v1 := (.slice (some ⟨go45, 0, none⟩) x8_6.length co45)) (ok := (fun _ => True)) (by (with_reducible repeat (first | apply Kd.R_alloc | apply Kd.R_drewN | apply Kd.R_drew)); exact Kd.R_mono HO_6.out (fun _ hk => ⟨trivial, hk⟩)) hg (.inl rfl)); have n2_ := Aside0.mk (hp_); have n3_ := Aside0.mk ((by rw [hw]; exact below_set (HB.out) GB45.out : Below w.heap.size w w48)); clear HO_4; clear HO_6; clear HO_8; clear HB; have HO_4 := n0_; have HO_6 := n1_; have HO_8 := n2_; have HB := n3_; clear n0_ n1_ n2_ n3_; clear hg hw hp_))
                                                                  go_roundg k6
                                                                  case measure => have := HJ1.out; have := HJ5.out; have := HK3.out; have := HK4.out; have := HK5.out; have := HK6.out; omega
                                                                  case rel => exact ⟨(y114), (wrap64 (x10_6 + 1)), (by first | rfl | (simp; done) | (simp [*]; done)), H', ⟨by have := HJ1.out; have := HJ5.out; have := HK3.out; have := HK4.out; have := HK5.out; have := HK6.out; omega⟩, ⟨by (with_reducible repeat (first | apply Kd.R_alloc | apply Kd.R_drewN | apply Kd.R_drew)); exact Kd.R_mono HO_4.out (fun _ hk => hk.2)⟩, ⟨by (with_reducible repeat (first | apply Kd.R_alloc | apply Kd.R_drewN | apply Kd.R_drew)); exact Kd.R_mono HO_6.out (fun _ hk => hk.2)⟩, ⟨by (with_reducible repeat (first | apply Kd.R_alloc | apply Kd.R_drewN | apply Kd.R_drew)); exact HO_8.out⟩, ⟨by repeat (first | (with_reducible first | exact HB.out | apply below_alloc | apply pw_below_drewN | apply below_drew1) | exact HB.out)⟩⟩
                                                                · rw [if_neg c44] at H
                                                                  exact absurd H (by simp)
                                                              · rw [if_neg c43] at H
                                                                exact absurd H (by simp)
                                                          · replace c40 := Bool.eq_false_iff.mpr c40
                                                            subst c40
                                                            have H1 : (spec_LocalLevel.l3 k6 x3_5 x4_4 x6_4 x7_4 x8_6 x9_5 (wrap64 (x10_6 + 1))) = some r := by rw [if_neg (show ¬ (false = true) by decide)] at H; exact H
                                                            clear H
                                                            have H := H1
                                                            clear H1
                                                            have H' := Aside0.mk H
                                                            clear H
                                                            have p112 : 0 ≤ (x9_5 : Int) := of_decide_eq_true (by first | (with_reducible assumption) | assumption)
                                                            have q112 : x9_5 < (x6_4.length : Int) := of_decide_eq_true (by first | (with_reducible assumption) | assumption)
                                                            obtain ⟨ad112, e112, hx112_0⟩ := Kd.at_bool (Kd.R_reads' HO_6.out).2.2 x9_5 p112 q112
                                                            (try rw [← Nbq23.out] at hx112_0)
                                                            (try rw [← Nbq35.out] at hx112_0)
                                                            (try rw [← Nbq39.out] at hx112_0)
                                                            obtain rfl : ad108 = ad112 := (by injection e112)
                                                            replace p112 := eq_true p112
                                                            replace q112 := eq_true q112
                                                            obtain ⟨Ao49, co49, eo49⟩ := Kd.R_slice HO_4.out
                                                            subst eo49
                                                            have p113 : 0 ≤ (x10_6 : Int) := of_decide_eq_true (by first | (with_reducible assumption) | assumption)
                                                            have q113 : x10_6 < (x4_4.length : Int) := of_decide_eq_true (by first | (with_reducible assumption) | assumption)
                                                            obtain ⟨ad113, e113, hx113_0⟩ := Kd.at_bool (Kd.R_reads' HO_4.out).2.2 x10_6 p113 q113
                                                            (try rw [← Nbq23.out] at hx113_0)
                                                            (try rw [← Nbq35.out] at hx113_0)
                                                            (try rw [← Nbq39.out] at hx113_0)
                                                            cases e113
                                                            replace p113 := eq_true p113
                                                            replace q113 := eq_true q113
                                                            go_wp2
                                                            go_roundg k6
                                                            case measure => have := HJ1.out; have := HJ5.out; have := HK3.out; have := HK4.out; have := HK5.out; have := HK6.out; omega
                                                            case rel => exact ⟨(x8_6), (wrap64 (x10_6 + 1)), (by first | rfl | (simp; done) | (simp [*]; done)), H', ⟨by have := HJ1.out; have := HJ5.out; have := HK3.out; have := HK4.out; have := HK5.out; have := HK6.out; omega⟩, ⟨by (with_reducible repeat (first | apply Kd.R_alloc | apply Kd.R_drewN | apply Kd.R_drew)); exact HO_4.out⟩, ⟨by (with_reducible repeat (first | apply Kd.R_alloc | apply Kd.R_drewN | apply Kd.R_drew)); exact HO_6.out⟩, ⟨by (with_reducible repeat (first | apply Kd.R_alloc | apply Kd.R_drewN | apply Kd.R_drew)); exact HO_8.out⟩, ⟨by repeat (first | (with_reducible first | exact HB.out | apply below_alloc | apply pw_below_drewN | apply below_drew1) | exact HB.out)⟩⟩
                                                        · rw [if_neg c38] at H
                                                          exact absurd H (by simp)
                                                      · rw [if_neg c37] at H
                                                        exact absurd H (by simp)
                                                    · replace c36 := Bool.eq_false_iff.mpr c36
                                                      subst c36
                                                      have H1 : (spec_LocalLevel.l3 k6 x3_5 x4_4 x6_4 x7_4 x8_6 x9_5 (wrap64 (x10_6 + 1))) = some r := by rw [if_neg (show ¬ (false = true) by decide)] at H; exact H
                                                      clear H
                                                      have H := H1
                                                      clear H1
                                                      have H' := Aside0.mk H
                                                      clear H
                                                      have p112 : 0 ≤ (x9_5 : Int) := of_decide_eq_true (by first | (with_reducible assumption) | assumption)
                                                      have q112 : x9_5 < (x6_4.length : Int) := of_decide_eq_true (by first | (with_reducible assumption) | assumption)
                                                      obtain ⟨ad112, e112, hx112_0⟩ := Kd.at_bool (Kd.R_reads' HO_6.out).2.2 x9_5 p112 q112
                                                      (try rw [← Nbq23.out] at hx112_0)
                                                      (try rw [← Nbq35.out] at hx112_0)
                                                      obtain rfl : ad108 = ad112 := (by injection e112)
                                                      replace p112 := eq_true p112
                                                      replace q112 := eq_true q112
                                                      go_wp2
                                                      go_roundg k6
                                                      case measure => have := HJ1.out; have := HJ5.out; have := HK3.out; have := HK4.out; have := HK5.out; have := HK6.out; omega
                                                      case rel => exact ⟨(x8_6), (wrap64 (x10_6 + 1)), (by first | rfl | (simp; done) | (simp [*]; done)), H', ⟨by have := HJ1.out; have := HJ5.out; have := HK3.out; have := HK4.out; have := HK5.out; have := HK6.out; omega⟩, ⟨by (with_reducible repeat (first | apply Kd.R_alloc | apply Kd.R_drewN | apply Kd.R_drew)); exact HO_4.out⟩, ⟨by (with_reducible repeat (first | apply Kd.R_alloc | apply Kd.R_drewN | apply Kd.R_drew)); exact HO_6.out⟩, ⟨by (with_reducible repeat (first | apply Kd.R_alloc | apply Kd.R_drewN | apply Kd.R_drew)); exact HO_8.out⟩, ⟨by repeat (first | (with_reducible first | exact HB.out | apply below_alloc | apply pw_below_drewN | apply below_drew1) | exact HB.out)⟩⟩
                                                  · rw [if_neg c34] at H
                                                    exact absurd H (by simp)
                                                · rw [if_neg c33] at H
                                                  exact absurd H (by simp)
                                              · rw [if_neg c32] at H
                                                have c32b0 : decide (x10_6 < x3_5) = false := decide_eq_false c32
                                                clear c32
                                                have H' := Aside0.mk H
                                                clear H
                                                go_wp2
                                                go_roundg k6
                                                case measure => have := HJ1.out; have := HJ5.out; have := HK3.out; have := HK4.out; have := HK5.out; have := HK6.out; omega
                                                case rel => exact ⟨(x8_6), (wrap64 (x9_5 + 1)), (by first | rfl | (simp; done) | (simp [*]; done)), H', ⟨by have := HJ1.out; have := HJ5.out; have := HK3.out; have := HK4.out; have := HK5.out; have := HK6.out; omega⟩, ⟨by (with_reducible repeat (first | apply Kd.R_alloc | apply Kd.R_drewN | apply Kd.R_drew)); exact HO_4.out⟩, ⟨by (with_reducible repeat (first | apply Kd.R_alloc | apply Kd.R_drewN | apply Kd.R_drew)); exact HO_6.out⟩, ⟨by (with_reducible repeat (first | apply Kd.R_alloc | apply Kd.R_drewN | apply Kd.R_drew)); exact HO_8.out⟩, ⟨by repeat (first | (with_reducible first | exact HB.out | apply below_alloc | apply pw_below_drewN | apply below_drew1) | exact HB.out)⟩⟩
                                        · rw [if_neg c31] at H
                                          have c31b0 : decide (x9_5 < x3_5) = false := decide_eq_false c31
                                          clear c31
                                          have H' := Aside0.mk H
                                          clear H
                                          go_wp2
                                          go_roundg k5
                                          case measure => have := HJ1.out; have := HJ5.out; have := HK3.out; have := HK4.out; have := HK5.out; omega
                                          case rel => exact ⟨(x4_4), (x8_5), (wrap64 (x7_4 + 1)), (by first | rfl | (simp; done) | (simp [*]; done)), H', ⟨by have := HJ1.out; have := HJ5.out; have := HK3.out; have := HK4.out; have := HK5.out; omega⟩, ⟨by (with_reducible repeat (first | apply Kd.R_alloc | apply Kd.R_drewN | apply Kd.R_drew)); exact Kd.R_mono HO_4.out (fun _ hk => trivial)⟩, ⟨by (with_reducible repeat (first | apply Kd.R_alloc | apply Kd.R_drewN | apply Kd.R_drew)); exact Kd.R_mono HO_8.out (fun _ hk => trivial)⟩, ⟨by repeat (first | (with_reducible first | exact HB.out | apply below_alloc | apply pw_below_drewN | apply below_drew1) | exact HB.out)⟩⟩
                                  · rw [if_neg c27] at H
                                    exact absurd H (by simp)
                                · rw [if_neg c26] at H
                                  exact absurd H (by simp)
                            · rw [if_neg c22] at H
                              exact absurd H (by simp)
                          · rw [if_neg c21] at H
                            exact absurd H (by simp)
              · rw [if_neg c9] at H
                exact absurd H (by simp)
            · rw [if_neg c8] at H
              exact absurd H (by simp)

end Go.Proofs.Ytmepbogcfkecnaa.PFnExactLocalLevel
