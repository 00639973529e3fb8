-- PRINTED BY print.sh 35421559b90ae4d0a3588c463048766b98c2df88dd9212a6774a882060cdf62d: not written by this session
import Derived.Test.YtnbjnlbaoogbmaaPFnWaysx0
import Derived.Test.YtnbjnlbaoogbmaaPFnWaysx1
namespace Go.Proofs.Ytnbjnlbaoogbmaa.PFnWays
open Go.RowKit Go.Proofs.YtnbjnlbaoogbmaaW.PrintWords Go.Proofs.YtnbjnlbaoogbmaaW.PrintLast Go.Proofs.YtnbjnlbaoogbmaaW.PrintMore
attribute [local go_sem] max2_int min2_int max_two min_two max_three min_three max_four min_four   -- for this text's walks alone
set_option linter.unusedVariables false
set_option linter.unusedSimpArgs false

/-! ### spec_DrawSymbolWays: function 45 -/
def spec_DrawSymbolWays.f (k : Nat) (l0 : List Int) : Option (Int × Int × Int) := (spec_l6Open.f l0).bind fun bt151 => ((spec_l91Pair.f k bt151.1 bt151.2).bind fun bt154 => ((some (([2, 3, 5, 7, 11, 4, 37] : List Int) : List Int)).bind fun y158 => ((spec_l6Rd_pick.f k bt151.1 bt154.2.2.2 7).bind fun bt161 => (if 0 ≤ bt161.1 then (if bt161.1 < (y158.length : Int) then (some (bt154.1, bt154.2.1, rd y158 bt161.1)) else (none)) else (none)))))
theorem spec_DrawSymbolWays.mono : ∀ a0 k, LeO (spec_DrawSymbolWays.f k a0) (spec_DrawSymbolWays.f (k + 1) a0) := by
  intro a0 k
  unfold spec_DrawSymbolWays.f
  repeat' first
      | (with_reducible exact spec_l6Rd_pick.mono _ _ _ _)
      | (with_reducible exact spec_l91Pair.mono _ _ _)
      | (with_reducible exact LeO.refl _)
      | (with_reducible exact LeO.none _)
      | (with_reducible refine LeO.ite ?_ ?_)
      | (with_reducible refine LeO.bind ?_ (fun _ => ?_))
      | exact spec_l6Rd_pick.mono _ _ _ _
      | exact spec_l91Pair.mono _ _ _
      | exact LeO.none _
      | refine LeO.ite ?_ ?_
      | refine LeO.bind ?_ (fun _ => ?_)
def spec_DrawSymbolWays.T3 : Bool × List (List Nat × List Nat) := (true, [([], []), ([], []), ([], []), ([], []), ([3], [3]), ([2, 4], [2, 4]), ([5], [5]), ([0, 4, 0], [0]), ([1, 7, 0, 1, 7], [1]), ([6, 8, 0, 1, 2, 3, 4, 5, 6, 7, 8], [6])])
def spec_DrawSymbolWays.B3 : List Nat := [0, 0, 0, 0, 8, 28, 60, 25, 155, 511]
theorem spec_DrawSymbolWays.tab3 : rtab .any (opsOf Try.f45 3) = spec_DrawSymbolWays.T3 := by kernel_rfl
theorem spec_DrawSymbolWays.bits3 : waitsOk spec_DrawSymbolWays.T3.2 spec_DrawSymbolWays.B3 = true := by kernel_rfl
set_option maxHeartbeats 8000000 in
set_option maxRecDepth 100000 in
theorem spec_DrawSymbolWays.calls (k : Nat) (A0 : Option Addr) (c0 : Nat) (l0 : List Int) (r1 : Int) (r2 : Int) (r3 : Int) (w : World) (hr0 : Kd.C (Kd.int .u8) w A0 l0.length l0) (hc0 : l0.length ≤ c0) (h : spec_DrawSymbolWays.f k l0 = some (r1, r2, r3)) :
    Calls Try.prog 45 #[.slice A0 l0.length c0] w fun e w' => e = .returned (.tuple #[.int .i64 r1, .int .i64 r2, .int .i64 r3]) ∧ Below w.heap.size w w' := by
  have HR0 := Aside0.mk hr0
  have HC0 := Aside0.mk hc0
  clear hr0 hc0
  have HB := Aside0.mk (Below.refl w.heap.size w)
  have H : ((spec_l6Open.f l0).bind fun bt151 => ((spec_l91Pair.f k bt151.1 bt151.2).bind fun bt154 => ((some (([2, 3, 5, 7, 11, 4, 37] : List Int) : List Int)).bind fun y158 => ((spec_l6Rd_pick.f k bt151.1 bt154.2.2.2 7).bind fun bt161 => (if 0 ≤ bt161.1 then (if bt161.1 < (y158.length : Int) then (some (bt154.1, bt154.2.1, rd y158 bt161.1)) else (none)) else (none)))))) = some (r1, r2, r3) := h
  clear h
  replace H := Option.bind_eq_some_iff.mp H
  obtain ⟨⟨t151, t152⟩, A20, H⟩ := H
  replace H : ((spec_l91Pair.f k t151 t152).bind fun bt154 => ((some (([2, 3, 5, 7, 11, 4, 37] : List Int) : List Int)).bind fun y158 => ((spec_l6Rd_pick.f k t151 bt154.2.2.2 7).bind fun bt161 => (if 0 ≤ bt161.1 then (if bt161.1 < (y158.length : Int) then (some (bt154.1, bt154.2.1, rd y158 bt161.1)) else (none)) else (none))))) = some (r1, r2, r3) := H
  have A2 := Aside0.mk A20
  clear A20
  replace H := Option.bind_eq_some_iff.mp H
  obtain ⟨⟨t154, t155, t156, t157⟩, A30, H⟩ := H
  replace H : ((some (([2, 3, 5, 7, 11, 4, 37] : List Int) : List Int)).bind fun y158 => ((spec_l6Rd_pick.f k t151 t157 7).bind fun bt161 => (if 0 ≤ bt161.1 then (if bt161.1 < (y158.length : Int) then (some (t154, t155, rd y158 bt161.1)) else (none)) else (none)))) = some (r1, r2, r3) := H
  have A3 := Aside0.mk A30
  clear A30
  obtain ⟨y158, hy158⟩ : ∃ y_ : List Int, y_ = (([2, 3, 5, 7, 11, 4, 37] : List Int)) := ⟨_, rfl⟩
  replace H : ((spec_l6Rd_pick.f k t151 t157 7).bind fun bt161 => (if 0 ≤ bt161.1 then (if bt161.1 < (y158.length : Int) then (some (t154, t155, rd y158 bt161.1)) else (none)) else (none))) = some (r1, r2, r3) := by first | (rw [hy158]; with_reducible exact H) | (have H2_ := (Option.bind_some _ _).symm.trans H; rw [hy158]; with_reducible exact H2_) | (have H2_ := (Option.bind_some _ _).symm.trans H; with_reducible exact H2_) | with_reducible exact H | (rw [hy158]; exact H) | exact H
  have Ny158 := Aside0.mk hy158
  clear hy158
  replace H := Option.bind_eq_some_iff.mp H
  obtain ⟨⟨t161, t162⟩, A40, H⟩ := H
  replace H : (if 0 ≤ t161 then (if t161 < (y158.length : Int) then (some (t154, t155, rd y158 t161)) else (none)) else (none)) = some (r1, r2, r3) := H
  have A4 := Aside0.mk A40
  clear A40
  by_cases c5 : 0 ≤ t161
  · rw [if_pos c5] at H
    have c5b0 : decide (0 ≤ t161) = true := decide_eq_true c5
    clear c5
    by_cases c6 : t161 < (y158.length : Int)
    · rw [if_pos c6] at H
      have c6b0 : decide (t161 < (y158.length : Int)) = true := decide_eq_true c6
      clear c6
      simp only [Option.some.injEq, Prod.mk.injEq] at H
      obtain ⟨rfl, rfl, rfl⟩ := H
      go_enter Try.func45, Try.ntmps45
      try go_wp2_with (first | ((with_reducible refine gate_callee (f := 53) rfl ?_); refine goesL_ (some 10) rfl rfl Try.func53 (by kernel_rfl) rfl #[.slice A0 l0.length c0] rfl (by (try simp only [List.map_toArray, List.map_cons, List.map_nil]); first | done | rfl | (simp only [List.length_drop, List.length_take]; rfl)) ?_; (with_reducible refine (spec_l6Open.calls _ _ l0 t151 t152 w _ ?side1 ?side2 ?side3 A2.out).mono ?_); (case side1 => repeat (first | (with_reducible first | exact HB.out | apply below_alloc | apply pw_below_drewN | apply below_drew1) | exact HB.out)); (case side2 => exact HR0.out); (case side3 => exact HC0.out); rintro e w7 ⟨g153, rfl, hi, hb, hb2⟩; refine ⟨_, rfl, ?_⟩; have n0_ := Aside0.mk (hb); have n1_ := Aside0.mk (hi); clear HB; have HB := n0_; have HI153 := n1_; clear n0_ n1_; (try clear hb); (try clear hb2); (try clear hk); (try clear hi)) | ((with_reducible refine gate_callee (f := 79) rfl ?_); refine goesL_ (some 13) rfl rfl Try.func79 (by kernel_rfl) rfl #[.pointer (some ⟨g153, 0, none⟩)] rfl (by (try simp only [List.map_toArray, List.map_cons, List.map_nil]); first | done | rfl | (simp only [List.length_drop, List.length_take]; rfl)) ?_; (with_reducible refine (spec_l91Pair.calls k g153 t151 t152 t154 t155 t156 t157 w _ ?side1 ?side2 A3.out).mono ?_); (case side1 => repeat (first | (with_reducible first | exact HI153.out | apply IsS54.alloc | apply IsS54.drewN | apply IsS54.drew | apply IsS54.set_1) | exact HI153.out)); (case side2 => repeat (first | (with_reducible first | exact HB.out | apply below_alloc | apply pw_below_drewN | apply below_drew1 | refine below_set ?_ (IsS54.ge HI153.out)) | exact HB.out)); rintro e w8 ⟨rfl, hi, hb, hk⟩; refine ⟨_, rfl, ?_⟩; have n0_ := Aside0.mk (hb); have n1_ := Aside0.mk (hi); clear HB; clear HI153; have HB := n0_; have HI153 := n1_; clear n0_ n1_; (try clear hb); (try clear hb2); (try clear hk); (try clear hi)))
      have pi163 : (0 ≤ (t161 : Int)) = True := eq_true (of_decide_eq_true (by first | (with_reducible assumption) | assumption))
      have qi163 : (t161 < (y158.length : Int)) = True := eq_true (of_decide_eq_true (by first | (with_reducible assumption) | assumption))
      have n0_ := Aside0.mk (IsS54.drew HI153.out)
      have n1_ := Aside0.mk (below_drew1 HB.out)
      clear HI153
      clear HB
      have HI153 := n0_
      have HB := n1_
      clear n0_ n1_
      refine start_ (n := 10) (S := fun w' => True) (ds := []) #[false, false, false, false, false, false, false, false, false, false] (by kernel_rfl) rfl rfl trivial (fun hHeld => ?_); refine with_tabW spec_DrawSymbolWays.tab3 spec_DrawSymbolWays.bits3 (fun HT_ HW_ => ?_)
      generalize w8.drew = w9 at HI153 HB hHeld ⊢
      refine pure_ (i := 0) (N := some 17) (v := ?_) (a' := ?_) #[true, false, false, false, false, false, false, false, false, false] rfl rfl (any_of HT_.out (by kernel_rfl)) (fun _ _ _ h => h) (Or.inl ⟨by rfl, ?_⟩) ?_ ?_
      rotate_left
      · intro w'
        go_simp
        with_reducible rfl
      rotate_left
      · simp only [Act.put, List.setIfInBounds_toArray, List.set_cons_zero, List.set_cons_succ, i64_w, i32_w]
        rfl
      refine pure_ (i := 1) (N := some 18) (v := ?_) (a' := ?_) #[true, true, false, false, false, false, false, false, false, false] rfl rfl (any_of HT_.out (by kernel_rfl)) (fun _ _ _ h => h) (Or.inl ⟨by rfl, ?_⟩) ?_ ?_
      rotate_left
      · intro w'
        go_simp
        with_reducible rfl
      rotate_left
      · simp only [Act.put, List.setIfInBounds_toArray, List.set_cons_zero, List.set_cons_succ, i64_w, i32_w]
        rfl
      refine pure_ (i := 3) (N := some 20) (v := ?_) (a' := ?_) #[true, true, false, true, false, false, false, false, false, false] rfl rfl (any_of HT_.out (by kernel_rfl)) (fun _ _ _ h => h) (Or.inl ⟨by rfl, ?_⟩) ?_ ?_
      rotate_left
      · intro w'
        go_simp
        with_reducible rfl
      rotate_left
      · simp only [Act.put, List.setIfInBounds_toArray, List.set_cons_zero, List.set_cons_succ, i64_w, i32_w]
        rfl
      refine inv_at [2, 4, 5, 6, 7, 8, 9] (fun a0_ b a w' => ∃ (v159 : Value) (adz_v159 : Addr) (m5_ : Value), a = putSel a0_ b [(2, 19, v159), (4, 21, .int .i64 t161), (5, 22, m5_), (6, 23, .int .i64 (rd y158 t161)), (7, 2, .int .i64 t154), (8, 3, .int .i64 t155), (9, 4, .int .i64 (rd y158 t161))] ∧ (b 4 = false → IsS54 w w' g153 t151 t157) ∧ (Below w.heap.size w w') ∧ (b 2 = true → Kd.R (Kd.int .i64) 3 w' w.heap.size (fun _ => True) v159 y158) ∧ (b 2 = true → ∃ c_, (v159 : Value) = .slice (some adz_v159) y158.length c_) ∧ (b 4 = true → IsS54 w w' g153 t151 t162) ∧ (b 5 = true → (m5_ : Value) = .pointer (some (adz_v159.add (t161).toNat)))) HT_.out HW_.out (by kernel_rfl) (by kernel_rfl) ?_ ?_ ?_
      · exact ⟨.bool false, ⟨0, 0, none⟩, .bool false, by simp only [putSel, Bool.false_eq_true, if_false], fun _ => HI153.out, HB.out, fun h_ => absurd h_ (by decide), fun h_ => absurd h_ (by decide), fun h_ => absurd h_ (by decide), fun h_ => absurd h_ (by decide)⟩
      · skip
        clear HB HI153
        refine steps_cons ?_ ?_
        · rintro b a w' ⟨v159, adz_v159, m5_, ha, Q_HI153, Q_HB, Q_HO160, Q_HA_HO160, Q_HI153_e4, Q_X5_⟩ hb_ hon hoff
          refine ⟨_, rfl, fun K hK => ?_⟩
          replace ha := Aside0.mk ha
          have HB := Aside0.mk Q_HB
          refine Kd.R_lit_step (Kd.int .i64) _ 3 ?hg (N := 19) ?hd (xs := ([2, 3, 5, 7, 11, 4, 37] : List Int)) (inner := [.int .i64 2, .int .i64 3, .int .i64 5, .int .i64 7, .int .i64 11, .int .i64 4, .int .i64 37]) (ok := fun _ => True) (okp := fun _ => True) ?hr ?hp (fun _ hk => hk) trivial (Below.refl _ _) (Nat.le_refl _) (by simp) ?_; (case hd => rfl); (case hg => rfl); (case hr => first | (go_simp; done) | (go_simp; rfl)); (case hp => exact (Reps.one (show Kd.M (Kd.int .i64) _ _ _ 2 [.int .i64 2] from rfl) (Reps.one (show Kd.M (Kd.int .i64) _ _ _ 3 [.int .i64 3] from rfl) (Reps.one (show Kd.M (Kd.int .i64) _ _ _ 5 [.int .i64 5] from rfl) (Reps.one (show Kd.M (Kd.int .i64) _ _ _ 7 [.int .i64 7] from rfl) (Reps.one (show Kd.M (Kd.int .i64) _ _ _ 11 [.int .i64 11] from rfl) (Reps.one (show Kd.M (Kd.int .i64) _ _ _ 4 [.int .i64 4] from rfl) (Reps.one (show Kd.M (Kd.int .i64) _ _ _ 37 [.int .i64 37] from rfl) (Reps.none _ _)))))))))
          intro v159 w10 ho11 hb hg_ hnew_
          clear hg_ hnew_
          (first | rw [← Ny158.out] at ho11 | (simp only [Int.reduceToNat] at ho11; rw [← Ny158.out] at ho11))
          have n0_ := Aside0.mk (Kd.R_lower ho11 (below_size (by repeat (first | (with_reducible first | exact HB.out | apply below_alloc | apply pw_below_drewN | apply below_drew1) | exact HB.out))))
          have n2_ := Aside0.mk (below_step (by repeat (first | (with_reducible first | exact HB.out | apply below_alloc | apply pw_below_drewN | apply below_drew1) | exact HB.out)) hb)
          have z_HI153 := fun (h0_ : b 4 = false) => (show IsS54 w w10 g153 t151 t157 from by first | exact (IsS54.below (by repeat (first | (with_reducible first | exact (Q_HI153 h0_) | apply IsS54.alloc | apply IsS54.drewN | apply IsS54.drew | apply IsS54.set_1) | exact (Q_HI153 h0_))) hb))
          have z_HI153_e4 := fun (h0_ : b 4 = true) => (show IsS54 w w10 g153 t151 t162 from by first | exact (IsS54.below (by repeat (first | (with_reducible first | exact (Q_HI153_e4 h0_) | apply IsS54.alloc | apply IsS54.drewN | apply IsS54.drew | apply IsS54.set_1) | exact (Q_HI153_e4 h0_))) hb))
          clear HB
          have HO160 := n0_
          have HB := n2_
          clear n0_ n2_
          clear hb ho11
          obtain ⟨Ao12, co12, eo12⟩ := Kd.R_slice HO160.out
          subst eo12
          obtain ⟨ado12, fo12, _⟩ := Kd.at_int (Kd.R_reads' HO160.out).2.2 0 (by decide) (by rw [Ny158.out]; simp)
          cases fo12
          refine hK.out _ _ ⟨.slice (some ado12) y158.length co12, ado12, m5_, (by rw [ha.out]; exact putSel_upk 0 hb_ rfl rfl rfl), z_HI153, (by repeat (first | (with_reducible first | exact HB.out | apply below_alloc | apply pw_below_drewN | apply below_drew1) | exact HB.out)), fun _ => (by (with_reducible repeat (first | apply Kd.R_alloc | apply Kd.R_drewN | apply Kd.R_drew)); exact HO160.out), fun _ => ⟨_, rfl⟩, z_HI153_e4, fun h0_ => absurd ((hoff 5 (by kernel_rfl)).symm.trans h0_) (by decide)⟩
        refine steps_cons ?_ ?_
        · rintro b a w' ⟨v159, adz_v159, m5_, ha, Q_HI153, Q_HB, Q_HO160, Q_HA_HO160, Q_HI153_e4, Q_X5_⟩ hb_ hon hoff
          refine ⟨_, rfl, fun K hK => ?_⟩
          have e20 : a.tmps[20]? = some (.pointer (some ⟨g153, 0, none⟩)) := by rw [ha]; exact (putSel_off rfl).trans rfl
          replace ha := Aside0.mk ha
          have HI153 := Aside0.mk (Q_HI153 hb_)
          have HB := Aside0.mk Q_HB
          refine goes_ Try.func60 (by kernel_rfl) rfl #[.pointer (some ⟨g153, 0, none⟩), .int .i64 7] (by rfl) rfl rfl (by first | (simp only [List.map_toArray, List.map_cons, List.map_nil, Act.eval, Array.getD_eq_getD_getElem?, Option.getD_some, e20]; done) | (simp only [List.map_toArray, List.map_cons, List.map_nil, Act.eval, Array.getD_eq_getD_getElem?, Option.getD_some, e20]; rfl)) ?_
          with_reducible refine (spec_l6Rd_pick.calls k g153 t151 t157 7 t161 t162 w _ ?side1 ?side2 A4.out).mono ?_
          (case side1 => repeat (first | (with_reducible first | exact HI153.out | apply IsS54.alloc | apply IsS54.drewN | apply IsS54.drew | apply IsS54.set_1) | exact HI153.out))
          (case side2 => repeat (first | (with_reducible first | exact HB.out | apply below_alloc | apply pw_below_drewN | apply below_drew1 | refine below_set ?_ (IsS54.ge HI153.out)) | exact HB.out))
          rintro e w10 ⟨rfl, hi, hb, hk⟩
          refine ⟨_, rfl, ?_⟩
          have n0_ := Aside0.mk (hb)
          have n1_ := Aside0.mk (hi)
          have z_HO160 := fun (h0_ : b 2 = true) => (show Kd.R (Kd.int .i64) 3 w10 w.heap.size (fun _ => True) v159 y158 from by first | exact (Kd.R_mono (Kd.R_keep (IsS54.apart (show IsS54 w _ g153 t151 t157 from by repeat (first | (with_reducible first | exact HI153.out | apply IsS54.alloc | apply IsS54.drewN | apply IsS54.drew | apply IsS54.set_1) | exact HI153.out)) (by (with_reducible repeat (first | apply Kd.R_alloc | apply Kd.R_drewN | apply Kd.R_drew)); exact (Q_HO160 h0_)) (by decide)) hk (fun _ h => h.2)) (fun _ h => h.1)) | exact Kd.R_mono (Kd.R_mono (Kd.R_keep (IsS54.apart (show IsS54 w _ g153 t151 t157 from by repeat (first | (with_reducible first | exact HI153.out | apply IsS54.alloc | apply IsS54.drewN | apply IsS54.drew | apply IsS54.set_1) | exact HI153.out)) (by (with_reducible repeat (first | apply Kd.R_alloc | apply Kd.R_drewN | apply Kd.R_drew)); exact (Q_HO160 h0_)) (by decide)) hk (fun _ h => h.2)) (fun _ h => h.1)) (fun _ h_ => by first | trivial | exact h_ | exact h_.1))
          clear HB
          clear HI153
          have HB := n0_
          have HI153 := n1_
          clear n0_ n1_
          (try clear hb)
          (try clear hb2)
          (try clear hk)
          (try clear hi)
          refine hK.out _ _ ⟨v159, adz_v159, m5_, (by rw [ha.out]; exact putSel_upk 1 hb_ rfl rfl rfl), fun h0_ => absurd ((up_self b 4).symm.trans h0_) (by decide), (by repeat (first | (with_reducible first | exact HB.out | apply below_alloc | apply pw_below_drewN | apply below_drew1 | refine below_set ?_ (IsS54.ge HI153.out)) | exact HB.out)), z_HO160, Q_HA_HO160, fun _ => (by repeat (first | (with_reducible first | exact HI153.out | apply IsS54.alloc | apply IsS54.drewN | apply IsS54.drew | apply IsS54.set_1) | exact HI153.out)), fun h0_ => absurd ((hoff 5 (by kernel_rfl)).symm.trans h0_) (by decide)⟩
        refine steps_cons ?_ ?_
        · rintro b a w' ⟨v159, adz_v159, m5_, ha, Q_HI153, Q_HB, Q_HO160, Q_HA_HO160, Q_HI153_e4, Q_X5_⟩ hb_ hon hoff
          refine ⟨_, rfl, fun K hK => ?_⟩
          have e19 : a.tmps[19]? = some (v159) := by rw [ha]; exact putSel_on (e := (2, 19, v159)) 0 rfl rfl (hon 2 (by kernel_rfl)) rfl
          have e21 : a.tmps[21]? = some (.int .i64 t161) := by rw [ha]; exact putSel_on (e := (4, 21, .int .i64 t161)) 1 rfl rfl (hon 4 (by kernel_rfl)) rfl
          replace ha := Aside0.mk ha
          have HB := Aside0.mk Q_HB
          have HO160 := Aside0.mk (Q_HO160 (hon 2 (by kernel_rfl)))
          have HA_HO160 := Aside0.mk (Q_HA_HO160 (hon 2 (by kernel_rfl)))
          have HI153 := Aside0.mk (Q_HI153_e4 (hon 4 (by kernel_rfl)))
          obtain ⟨c_, hv_⟩ := HA_HO160.out
          rw [hv_] at e19
          refine value_ (w1 := w') (v := .pointer (some (adz_v159.add (t161).toNat))) (by rfl) rfl ?_ ?_
          · go_simp
            (try simp only [i64_w])
            try rfl
          refine hK.out _ _ ⟨v159, adz_v159, (.pointer (some (adz_v159.add (t161).toNat))), (by rw [ha.out]; exact putSel_upk 2 hb_ rfl rfl rfl), fun h0_ => absurd ((hon 4 (by kernel_rfl)).symm.trans h0_) (by decide), Q_HB, Q_HO160, Q_HA_HO160, Q_HI153_e4, fun _ => rfl⟩
        refine steps_cons ?_ ?_
        · rintro b a w' ⟨v159, adz_v159, m5_, ha, Q_HI153, Q_HB, Q_HO160, Q_HA_HO160, Q_HI153_e4, Q_X5_⟩ hb_ hon hoff
          refine ⟨_, rfl, fun K hK => ?_⟩
          have e22 : a.tmps[22]? = some (m5_) := by rw [ha]; exact putSel_on (e := (5, 22, m5_)) 2 rfl rfl (hon 5 (by kernel_rfl)) rfl
          rw [Q_X5_ (hon 5 (by kernel_rfl))] at e22
          replace ha := Aside0.mk ha
          have HB := Aside0.mk Q_HB
          have HO160 := Aside0.mk (Q_HO160 (hon 2 (by kernel_rfl)))
          have HA_HO160 := Aside0.mk (Q_HA_HO160 (hon 2 (by kernel_rfl)))
          have HI153 := Aside0.mk (Q_HI153_e4 (hon 4 (by kernel_rfl)))
          obtain ⟨c_, hv_⟩ := HA_HO160.out
          have hF_ := HO160.out
          rw [hv_] at hF_
          obtain ⟨ad_, ea_, hx_⟩ := Kd.at_int (Kd.R_reads' hF_).2.2 t161 (of_eq_true pi163) (of_eq_true qi163)
          cases ea_
          refine value_ (w1 := w') (v := .int .i64 (rd y158 t161)) (by rfl) rfl ?_ ?_
          · go_simp
            (try simp only [i64_w])
            try rfl
          refine hK.out _ _ ⟨v159, adz_v159, m5_, (by rw [ha.out]; exact putSel_upk 3 hb_ rfl rfl rfl), fun h0_ => absurd ((hon 4 (by kernel_rfl)).symm.trans h0_) (by decide), Q_HB, Q_HO160, Q_HA_HO160, Q_HI153_e4, Q_X5_⟩
        refine steps_cons ?_ ?_
        · rintro b a w' ⟨v159, adz_v159, m5_, ha, Q_HI153, Q_HB, Q_HO160, Q_HA_HO160, Q_HI153_e4, Q_X5_⟩ hb_ hon hoff
          refine ⟨_, rfl, fun K hK => ?_⟩
          have e17 : a.tmps[17]? = some (.int .i64 t154) := by rw [ha]; exact (putSel_off rfl).trans rfl
          replace ha := Aside0.mk ha
          have HB := Aside0.mk Q_HB
          have HI153 := Aside0.mk (Q_HI153_e4 (hon 4 (by kernel_rfl)))
          refine value_ (w1 := w') (v := .int .i64 t154) (by rfl) rfl ?_ ?_
          · go_simp
            (try simp only [i64_w])
            try rfl
          refine hK.out _ _ ⟨v159, adz_v159, m5_, (by rw [ha.out]; exact putSel_upk 4 hb_ rfl rfl rfl), fun h0_ => absurd ((hon 4 (by kernel_rfl)).symm.trans h0_) (by decide), Q_HB, Q_HO160, Q_HA_HO160, Q_HI153_e4, Q_X5_⟩
        refine steps_cons ?_ ?_
        · rintro b a w' ⟨v159, adz_v159, m5_, ha, Q_HI153, Q_HB, Q_HO160, Q_HA_HO160, Q_HI153_e4, Q_X5_⟩ hb_ hon hoff
          refine ⟨_, rfl, fun K hK => ?_⟩
          have e18 : a.tmps[18]? = some (.int .i64 t155) := by rw [ha]; exact (putSel_off rfl).trans rfl
          replace ha := Aside0.mk ha
          have HB := Aside0.mk Q_HB
          have HI153 := Aside0.mk (Q_HI153_e4 (hon 4 (by kernel_rfl)))
          refine value_ (w1 := w') (v := .int .i64 t155) (by rfl) rfl ?_ ?_
          · go_simp
            (try simp only [i64_w])
            try rfl
          refine hK.out _ _ ⟨v159, adz_v159, m5_, (by rw [ha.out]; exact putSel_upk 5 hb_ rfl rfl rfl), fun h0_ => absurd ((hon 4 (by kernel_rfl)).symm.trans h0_) (by decide), Q_HB, Q_HO160, Q_HA_HO160, Q_HI153_e4, Q_X5_⟩
        refine steps_cons ?_ ?_
        · rintro b a w' ⟨v159, adz_v159, m5_, ha, Q_HI153, Q_HB, Q_HO160, Q_HA_HO160, Q_HI153_e4, Q_X5_⟩ hb_ hon hoff
          refine ⟨_, rfl, fun K hK => ?_⟩
          have e23 : a.tmps[23]? = some (.int .i64 (rd y158 t161)) := by rw [ha]; exact putSel_on (e := (6, 23, .int .i64 (rd y158 t161))) 3 rfl rfl (hon 6 (by kernel_rfl)) rfl
          replace ha := Aside0.mk ha
          have HB := Aside0.mk Q_HB
          have HO160 := Aside0.mk (Q_HO160 (hon 2 (by kernel_rfl)))
          have HA_HO160 := Aside0.mk (Q_HA_HO160 (hon 2 (by kernel_rfl)))
          have HI153 := Aside0.mk (Q_HI153_e4 (hon 4 (by kernel_rfl)))
          refine value_ (w1 := w') (v := .int .i64 (rd y158 t161)) (by rfl) rfl ?_ ?_
          · go_simp
            (try simp only [i64_w])
            try rfl
          refine hK.out _ _ ⟨v159, adz_v159, m5_, (by rw [ha.out]; exact putSel_upk 6 hb_ rfl rfl rfl), fun h0_ => absurd ((hon 4 (by kernel_rfl)).symm.trans h0_) (by decide), Q_HB, Q_HO160, Q_HA_HO160, Q_HI153_e4, Q_X5_⟩
        exact steps_nil
      rintro b a w14 hall ⟨v159, adz_v159, m5_, ha, Q_HI153, Q_HB, Q_HO160, Q_HA_HO160, Q_HI153_e4, Q_X5_⟩
      clear HB HI153
      have hb2_ := hall 2 (by kernel_rfl)
      have hb4_ := hall 4 (by kernel_rfl)
      have hb5_ := hall 5 (by kernel_rfl)
      have hb6_ := hall 6 (by kernel_rfl)
      have hb7_ := hall 7 (by kernel_rfl)
      have hb8_ := hall 8 (by kernel_rfl)
      have hb9_ := hall 9 (by kernel_rfl)
      subst ha
      obtain rfl := Q_X5_ hb5_
      simp only [putSel, hb2_, hb4_, hb5_, hb6_, hb7_, hb8_, hb9_, if_true, Act.put, List.setIfInBounds_toArray, List.set_cons_zero, List.set_cons_succ]
      clear Q_HI153
      have HB := Aside0.mk Q_HB
      clear Q_HB
      have HO160 := Aside0.mk (Q_HO160 hb2_)
      clear Q_HO160
      have HA_HO160 := Aside0.mk (Q_HA_HO160 hb2_)
      clear Q_HA_HO160
      have HI153 := Aside0.mk (Q_HI153_e4 hb4_)
      clear Q_HI153_e4
      clear hall hb2_ hb4_ hb5_ hb6_ hb7_ hb8_ hb9_
      obtain ⟨co15, eo15⟩ := HA_HO160.out
      clear HA_HO160
      subst eo15
      try go_wp2
      go_ret3
      exact ⟨by first | rfl | (simp [errW_none, errW_some] <;> rfl) | (simp [*, errW_none, errW_some] <;> rfl), by repeat (first | (with_reducible first | exact HB.out | apply below_alloc | apply pw_below_drewN | apply below_drew1 | refine below_set ?_ (IsS54.ge HI153.out)) | exact HB.out)⟩
    · rw [if_neg c6] at H
      exact absurd H (by simp)
  · rw [if_neg c5] at H
    exact absurd H (by simp)

/-! ### impl_prime: function 64 -/
def impl_prime.l0 : Nat → Int → Int → Option (Bool)
  | 0, _, _ => none
  | k + 1, x0, x3 => if (wrap64 (x3 * x3)) ≤ x0 then (if x3 = 0 then (none) else (if (Int.tmod x0 x3) = 0 then (some false) else (impl_prime.l0 k x0 (wrap64 (x3 + 1))))) else (some (decide (x0 ≥ 2)))
def impl_prime.f (k : Nat) (a0 : Int) : Option (Bool) := impl_prime.l0 k a0 2
theorem impl_prime.mono_l : ∀ k, (∀ y0 y1, LeO (impl_prime.l0 k y0 y1) (impl_prime.l0 (k + 1) y0 y1))
  | 0 => fun _ _ r h => by simp [impl_prime.l0] at h
  | k + 1 => by
    have ih0 := impl_prime.mono_l k
    · intro y0 y1
      unfold impl_prime.l0
      repeat' first
      | (with_reducible exact ih0 _ _)
      | (with_reducible exact LeO.refl _)
      | (with_reducible exact LeO.none _)
      | (with_reducible refine LeO.ite ?_ ?_)
      | (with_reducible refine LeO.bind ?_ (fun _ => ?_))
      | exact ih0 _ _
      | exact LeO.none _
      | refine LeO.ite ?_ ?_
      | refine LeO.bind ?_ (fun _ => ?_)
theorem impl_prime.mono : ∀ a0 k, LeO (impl_prime.f k a0) (impl_prime.f (k + 1) a0) := by
  intro a0 k
  have ih0 := impl_prime.mono_l k
  unfold impl_prime.f
  repeat' first
      | (with_reducible exact ih0 _ _)
      | (with_reducible exact LeO.refl _)
      | (with_reducible exact LeO.none _)
      | (with_reducible refine LeO.ite ?_ ?_)
      | (with_reducible refine LeO.bind ?_ (fun _ => ?_))
      | exact ih0 _ _
      | exact LeO.none _
      | refine LeO.ite ?_ ?_
      | refine LeO.bind ?_ (fun _ => ?_)
set_option maxHeartbeats 8000000 in
set_option maxRecDepth 100000 in
theorem impl_prime.calls (k : Nat) (a0 : Int) (r : Bool) (w : World) (h : impl_prime.f k a0 = some r) :
    Calls Try.prog 64 #[.int .i64 a0] w fun e w' => e = .returned (.bool r) ∧ Drawn0 w w' := by
  have H : (impl_prime.l0 k a0 2) = some r := h
  clear h
  have H' := Aside0.mk H
  clear H
  go_enter Try.func64, Try.ntmps64
  go_wp2
  go_loopg [3] k (fun kq v3 w' => ∃ (x3_1 : Int), v3 = .int .i64 x3_1 ∧ Aside0 (impl_prime.l0 kq a0 x3_1 = some r) ∧ Aside0 (kq ≤ k) ∧ Drawn0 w w')
  case atStart => exact ⟨(2), (by first | rfl | (simp; done) | (simp [*]; done)), H', ⟨Nat.le_refl _⟩, by repeat (first | exact Drawn0.refl _ | apply Drawn0.step)⟩
  case round =>
    clear H'
    obtain ⟨x3_1, rfl, HA, HK1, ⟨m1, rfl⟩⟩ := hrel
    cases gk with
    | zero => exact absurd HA.out (by simp [impl_prime.l0])
    | succ k1 =>
      have H := HA.out
      clear HA
      simp only [impl_prime.l0] at H
      by_cases c2 : (wrap64 (x3_1 * x3_1)) ≤ a0
      · rw [if_pos c2] at H
        have c2b0 : decide ((wrap64 (x3_1 * x3_1)) ≤ a0) = true := decide_eq_true c2
        clear c2
        by_cases c3 : x3_1 = 0
        · rw [if_pos c3] at H
          exact absurd H (by simp)
        · rw [if_neg c3] at H
          have c3b0 : (x3_1 == 0) = false := beq_eq_false_iff_ne.mpr c3
          have c3b1 : (x3_1 != 0) = true := bne_iff_ne.mpr c3
          by_cases c4 : (Int.tmod a0 x3_1) = 0
          · rw [if_pos c4] at H
            have c4b0 : ((Int.tmod a0 x3_1) == 0) = true := beq_iff_eq.mpr c4
            have c4b1 : ((Int.tmod a0 x3_1) != 0) = false := bne_eq_false_iff_eq.mpr c4
            clear c4
            obtain rfl := Option.some.inj H
            go_wp2
            go_ret
            exact ⟨by first | rfl | (simp; done) | (simp [*]; done), by repeat (first | exact Drawn0.refl _ | apply Drawn0.step)⟩
          · rw [if_neg c4] at H
            have c4b0 : ((Int.tmod a0 x3_1) == 0) = false := beq_eq_false_iff_ne.mpr c4
            have c4b1 : ((Int.tmod a0 x3_1) != 0) = true := bne_iff_ne.mpr c4
            have H' := Aside0.mk H
            clear H
            go_wp2
            go_roundg k1
            case measure => have := HK1.out; omega
            case rel => exact ⟨(wrap64 (x3_1 + 1)), (by first | rfl | (simp; done) | (simp [*]; done)), H', ⟨by have := HK1.out; omega⟩, by repeat (first | exact Drawn0.refl _ | apply Drawn0.step)⟩
      · rw [if_neg c2] at H
        have c2b0 : decide ((wrap64 (x3_1 * x3_1)) ≤ a0) = false := decide_eq_false c2
        clear c2
        obtain rfl := Option.some.inj H
        go_wp2
        go_ret
        exact ⟨by first | rfl | (simp; done) | (simp [*]; done), by repeat (first | exact Drawn0.refl _ | apply Drawn0.step)⟩

/-! ### impl_PrimeIs: function 25 -/
def impl_PrimeIs.f (k : Nat) (a0 : Int) : Option (Bool) := if a0 ≤ 5000 then ((impl_prime.f k a0).bind fun t164 => (some t164)) else (some false)
theorem impl_PrimeIs.mono : ∀ a0 k, LeO (impl_PrimeIs.f k a0) (impl_PrimeIs.f (k + 1) a0) := by
  intro a0 k
  unfold impl_PrimeIs.f
  repeat' first
      | (with_reducible exact impl_prime.mono _ _)
      | (with_reducible exact LeO.refl _)
      | (with_reducible exact LeO.none _)
      | (with_reducible refine LeO.ite ?_ ?_)
      | (with_reducible refine LeO.bind ?_ (fun _ => ?_))
      | exact impl_prime.mono _ _
      | exact LeO.none _
      | refine LeO.ite ?_ ?_
      | refine LeO.bind ?_ (fun _ => ?_)
set_option maxHeartbeats 8000000 in
set_option maxRecDepth 100000 in
theorem impl_PrimeIs.calls (k : Nat) (a0 : Int) (r : Bool) (w : World) (h : impl_PrimeIs.f k a0 = some r) :
    Calls Try.prog 25 #[.int .i64 a0] w fun e w' => e = .returned (.bool r) ∧ Drawn0 w w' := by
  have H : (if a0 ≤ 5000 then ((impl_prime.f k a0).bind fun t164 => (some t164)) else (some false)) = some r := h
  clear h
  by_cases c2 : a0 ≤ 5000
  · rw [if_pos c2] at H
    have c2b0 : decide (a0 ≤ 5000) = true := decide_eq_true c2
    clear c2
    replace H := Option.bind_eq_some_iff.mp H
    obtain ⟨t164, A30, H⟩ := H
    replace H : (some t164) = some r := H
    have A3 := Aside0.mk A30
    clear A30
    obtain rfl := Option.some.inj H
    go_enter Try.func25, Try.ntmps25
    go_wp2_with (first | (go_at_call 64; (with_reducible refine (impl_prime.calls k a0 t164 _ A3.out).mono ?_); rintro e w' ⟨rfl, ⟨nd, rfl⟩⟩))
    go_ret
    exact ⟨by first | rfl | (simp; done) | (simp [*]; done), by repeat (first | exact Drawn0.refl _ | apply Drawn0.step)⟩
  · rw [if_neg c2] at H
    have c2b0 : decide (a0 ≤ 5000) = false := decide_eq_false c2
    clear c2
    obtain rfl := Option.some.inj H
    go_enter Try.func25, Try.ntmps25
    go_wp2
    go_ret
    exact ⟨by first | rfl | (simp; done) | (simp [*]; done), by repeat (first | exact Drawn0.refl _ | apply Drawn0.step)⟩

/-! ### impl_isNumber: function 56 -/
def impl_isNumber.f (a0 : Int) : Option (Bool) := if a0 ≥ (-5000) then (some (decide (a0 ≤ 5000))) else (some false)
set_option maxHeartbeats 8000000 in
set_option maxRecDepth 100000 in
theorem impl_isNumber.calls (a0 : Int) (r : Bool) (w : World) (h : impl_isNumber.f a0 = some r) :
    Calls Try.prog 56 #[.int .i64 a0] w fun e w' => e = .returned (.bool r) ∧ Drawn0 w w' := by
  have H : (if a0 ≥ (-5000) then (some (decide (a0 ≤ 5000))) else (some false)) = some r := h
  clear h
  by_cases c2 : a0 ≥ (-5000)
  · rw [if_pos c2] at H
    have c2b0 : decide ((-5000) ≤ a0) = true := decide_eq_true c2
    clear c2
    obtain rfl := Option.some.inj H
    go_enter Try.func56, Try.ntmps56
    go_wp2
    go_ret
    exact ⟨by first | rfl | (simp; done) | (simp [*]; done), by repeat (first | exact Drawn0.refl _ | apply Drawn0.step)⟩
  · rw [if_neg c2] at H
    have c2b0 : decide ((-5000) ≤ a0) = false := decide_eq_false c2
    clear c2
    obtain rfl := Option.some.inj H
    go_enter Try.func56, Try.ntmps56
    go_wp2
    go_ret
    exact ⟨by first | rfl | (simp; done) | (simp [*]; done), by repeat (first | exact Drawn0.refl _ | apply Drawn0.step)⟩

/-! ### impl_bothNumbers: function 80 -/
def impl_bothNumbers.f (a0 : Int) (a1 : Int) : Option (Bool) := if a0 = 0 then (some false) else (if a1 = 0 then (some false) else ((impl_isNumber.f a0).bind fun t165 => (if t165 = true then ((impl_isNumber.f a1).bind fun t166 => (some t166)) else (some false))))
set_option maxHeartbeats 8000000 in
set_option maxRecDepth 100000 in
theorem impl_bothNumbers.calls (a0 : Int) (a1 : Int) (r : Bool) (w : World) (h : impl_bothNumbers.f a0 a1 = some r) :
    Calls Try.prog 80 #[.int .i64 a0, .int .i64 a1] w fun e w' => e = .returned (.bool r) ∧ Drawn0 w w' := by
  have H : (if a0 = 0 then (some false) else (if a1 = 0 then (some false) else ((impl_isNumber.f a0).bind fun t165 => (if t165 = true then ((impl_isNumber.f a1).bind fun t166 => (some t166)) else (some false))))) = some r := h
  clear h
  by_cases c3 : a0 = 0
  · rw [if_pos c3] at H
    have c3b0 : (a0 == 0) = true := beq_iff_eq.mpr c3
    have c3b1 : (a0 != 0) = false := bne_eq_false_iff_eq.mpr c3
    clear c3
    obtain rfl := Option.some.inj H
    go_enter Try.func80, Try.ntmps80
    go_wp2
    go_ret
    exact ⟨by first | rfl | (simp; done) | (simp [*]; done), by repeat (first | exact Drawn0.refl _ | apply Drawn0.step)⟩
  · rw [if_neg c3] at H
    have c3b0 : (a0 == 0) = false := beq_eq_false_iff_ne.mpr c3
    have c3b1 : (a0 != 0) = true := bne_iff_ne.mpr c3
    by_cases c4 : a1 = 0
    · rw [if_pos c4] at H
      have c4b0 : (a1 == 0) = true := beq_iff_eq.mpr c4
      have c4b1 : (a1 != 0) = false := bne_eq_false_iff_eq.mpr c4
      clear c4
      obtain rfl := Option.some.inj H
      go_enter Try.func80, Try.ntmps80
      go_wp2
      go_ret
      exact ⟨by first | rfl | (simp; done) | (simp [*]; done), by repeat (first | exact Drawn0.refl _ | apply Drawn0.step)⟩
    · rw [if_neg c4] at H
      have c4b0 : (a1 == 0) = false := beq_eq_false_iff_ne.mpr c4
      have c4b1 : (a1 != 0) = true := bne_iff_ne.mpr c4
      replace H := Option.bind_eq_some_iff.mp H
      obtain ⟨t165, A50, H⟩ := H
      replace H : (if t165 = true then ((impl_isNumber.f a1).bind fun t166 => (some t166)) else (some false)) = some r := H
      have A5 := Aside0.mk A50
      clear A50
      by_cases c6 : t165 = true
      · subst c6
        have H1 : ((impl_isNumber.f a1).bind fun t166 => (some t166)) = some r := by rw [if_pos rfl] at H; exact H
        clear H
        have H := H1
        clear H1
        replace H := Option.bind_eq_some_iff.mp H
        obtain ⟨t166, A70, H⟩ := H
        replace H : (some t166) = some r := H
        have A7 := Aside0.mk A70
        clear A70
        obtain rfl := Option.some.inj H
        go_enter Try.func80, Try.ntmps80
        go_wp2_with (first | (go_at_call 56; (with_reducible refine (impl_isNumber.calls a0 true _ A5.out).mono ?_); rintro e w' ⟨rfl, ⟨nd, rfl⟩⟩) | (go_at_call 56; (with_reducible refine (impl_isNumber.calls a1 t166 _ A7.out).mono ?_); rintro e w' ⟨rfl, ⟨nd, rfl⟩⟩))
        go_ret
        exact ⟨by first | rfl | (simp; done) | (simp [*]; done), by repeat (first | exact Drawn0.refl _ | apply Drawn0.step)⟩
      · replace c6 := Bool.eq_false_iff.mpr c6
        subst c6
        have H1 : (some false) = some r := by rw [if_neg (show ¬ (false = true) by decide)] at H; exact H
        clear H
        have H := H1
        clear H1
        obtain rfl := Option.some.inj H
        go_enter Try.func80, Try.ntmps80
        go_wp2_with (first | (go_at_call 56; (with_reducible refine (impl_isNumber.calls a0 false _ A5.out).mono ?_); rintro e w' ⟨rfl, ⟨nd, rfl⟩⟩))
        go_ret
        exact ⟨by first | rfl | (simp; done) | (simp [*]; done), by repeat (first | exact Drawn0.refl _ | apply Drawn0.step)⟩

/-! ### impl_rest: function 73 -/
def impl_rest.f (a0 : Int) (a1 : Int) : Option (Int) := if a1 = 0 then (none) else (some (Int.tmod (wrap64 ((Int.tmod a0 a1) + a1)) a1))
set_option maxHeartbeats 8000000 in
set_option maxRecDepth 100000 in
theorem impl_rest.calls (a0 : Int) (a1 : Int) (r : Int) (w : World) (h : impl_rest.f a0 a1 = some r) :
    Calls Try.prog 73 #[.int .i64 a0, .int .i64 a1] w fun e w' => e = .returned (.int .i64 r) ∧ Drawn0 w w' := by
  have H : (if a1 = 0 then (none) else (some (Int.tmod (wrap64 ((Int.tmod a0 a1) + a1)) a1))) = some r := h
  clear h
  by_cases c3 : a1 = 0
  · rw [if_pos c3] at H
    exact absurd H (by simp)
  · rw [if_neg c3] at H
    have c3b0 : (a1 == 0) = false := beq_eq_false_iff_ne.mpr c3
    have c3b1 : (a1 != 0) = true := bne_iff_ne.mpr c3
    obtain rfl := Option.some.inj H
    go_enter Try.func73, Try.ntmps73
    go_wp2
    go_ret
    exact ⟨by first | rfl | (simp; done) | (simp [*]; done), by repeat (first | exact Drawn0.refl _ | apply Drawn0.step)⟩

/-! ### impl_waysModulo: function 81 -/
mutual
def impl_waysModulo.l0 : Nat → Int → Int → Int → Int → Int → Int → Int → Option (Int)
  | 0, _, _, _, _, _, _, _ => none
  | k + 1, x0, x1, x2, x3, x9, x13, x14 => if x14 < x13 then (impl_waysModulo.l1 k x0 x1 x2 x3 x9 x14 x13 x14 x3 0) else (some x9)
def impl_waysModulo.l1 : Nat → Int → Int → Int → Int → Int → Int → Int → Int → Int → Int → Option (Int)
  | 0, _, _, _, _, _, _, _, _, _, _ => none
  | k + 1, x0, x1, x2, x3, x9, x10, x13, x14, x17, x18 => if x18 < x17 then (impl_waysModulo.l2 k x0 x1 x2 x3 x9 x10 x18 x13 x14 x17 x18 x3 0) else (impl_waysModulo.l0 k x0 x1 x2 x3 x9 x13 (wrap64 (x14 + 1)))
def impl_waysModulo.l2 : Nat → Int → Int → Int → Int → Int → Int → Int → Int → Int → Int → Int → Int → Int → Option (Int)
  | 0, _, _, _, _, _, _, _, _, _, _, _, _, _ => none
  | k + 1, x0, x1, x2, x3, x9, x10, x11, x13, x14, x17, x18, x21, x22 => if x22 < x21 then (if x2 = 0 then (none) else (if (Int.tmod x10 x2) = 0 then (if (Int.tmod x11 x2) = 0 then (if (Int.tmod x22 x2) = 0 then (impl_waysModulo.l2 k x0 x1 x2 x3 x9 x10 x11 x13 x14 x17 x18 x21 (wrap64 (x22 + 1))) else ((impl_rest.f (wrap64 ((wrap64 ((wrap64 (x22 * x22)) - (wrap64 ((wrap64 (x0 * x10)) * x10)))) - (wrap64 ((wrap64 (x1 * x11)) * x11)))) x3).bind fun t167 => (if t167 = 0 then (impl_waysModulo.l2 k x0 x1 x2 x3 (wrap64 (x9 + 1)) x10 x11 x13 x14 x17 x18 x21 (wrap64 (x22 + 1))) else (impl_waysModulo.l2 k x0 x1 x2 x3 x9 x10 x11 x13 x14 x17 x18 x21 (wrap64 (x22 + 1)))))) else ((impl_rest.f (wrap64 ((wrap64 ((wrap64 (x22 * x22)) - (wrap64 ((wrap64 (x0 * x10)) * x10)))) - (wrap64 ((wrap64 (x1 * x11)) * x11)))) x3).bind fun t168 => (if t168 = 0 then (impl_waysModulo.l2 k x0 x1 x2 x3 (wrap64 (x9 + 1)) x10 x11 x13 x14 x17 x18 x21 (wrap64 (x22 + 1))) else (impl_waysModulo.l2 k x0 x1 x2 x3 x9 x10 x11 x13 x14 x17 x18 x21 (wrap64 (x22 + 1)))))) else ((impl_rest.f (wrap64 ((wrap64 ((wrap64 (x22 * x22)) - (wrap64 ((wrap64 (x0 * x10)) * x10)))) - (wrap64 ((wrap64 (x1 * x11)) * x11)))) x3).bind fun t169 => (if t169 = 0 then (impl_waysModulo.l2 k x0 x1 x2 x3 (wrap64 (x9 + 1)) x10 x11 x13 x14 x17 x18 x21 (wrap64 (x22 + 1))) else (impl_waysModulo.l2 k x0 x1 x2 x3 x9 x10 x11 x13 x14 x17 x18 x21 (wrap64 (x22 + 1))))))) else (impl_waysModulo.l1 k x0 x1 x2 x3 x9 x10 x13 x14 x17 (wrap64 (x18 + 1)))
end
def impl_waysModulo.f (k : Nat) (a0 : Int) (a1 : Int) (a2 : Int) (a3 : Int) : Option (Int) := impl_waysModulo.l0 k a0 a1 a2 a3 0 a3 0
theorem impl_waysModulo.mono_l : ∀ k, (∀ y0 y1 y2 y3 y4 y5 y6, LeO (impl_waysModulo.l0 k y0 y1 y2 y3 y4 y5 y6) (impl_waysModulo.l0 (k + 1) y0 y1 y2 y3 y4 y5 y6)) ∧ (∀ y0 y1 y2 y3 y4 y5 y6 y7 y8 y9, LeO (impl_waysModulo.l1 k y0 y1 y2 y3 y4 y5 y6 y7 y8 y9) (impl_waysModulo.l1 (k + 1) y0 y1 y2 y3 y4 y5 y6 y7 y8 y9)) ∧ (∀ y0 y1 y2 y3 y4 y5 y6 y7 y8 y9 y10 y11 y12, LeO (impl_waysModulo.l2 k y0 y1 y2 y3 y4 y5 y6 y7 y8 y9 y10 y11 y12) (impl_waysModulo.l2 (k + 1) y0 y1 y2 y3 y4 y5 y6 y7 y8 y9 y10 y11 y12))
  | 0 => ⟨fun _ _ _ _ _ _ _ r h => by simp [impl_waysModulo.l0] at h, fun _ _ _ _ _ _ _ _ _ _ r h => by simp [impl_waysModulo.l1] at h, fun _ _ _ _ _ _ _ _ _ _ _ _ _ r h => by simp [impl_waysModulo.l2] at h⟩
  | k + 1 => by
    obtain ⟨ih0, ih1, ih2⟩ := impl_waysModulo.mono_l k
    refine ⟨?_, ?_, ?_⟩
    · intro y0 y1 y2 y3 y4 y5 y6
      unfold impl_waysModulo.l0
      repeat' first
      | (with_reducible exact ih0 _ _ _ _ _ _ _)
      | (with_reducible exact ih1 _ _ _ _ _ _ _ _ _ _)
      | (with_reducible exact ih2 _ _ _ _ _ _ _ _ _ _ _ _ _)
      | (with_reducible exact LeO.refl _)
      | (with_reducible exact LeO.none _)
      | (with_reducible refine LeO.ite ?_ ?_)
      | (with_reducible refine LeO.bind ?_ (fun _ => ?_))
      | exact ih0 _ _ _ _ _ _ _
      | exact ih1 _ _ _ _ _ _ _ _ _ _
      | exact ih2 _ _ _ _ _ _ _ _ _ _ _ _ _
      | exact LeO.none _
      | refine LeO.ite ?_ ?_
      | refine LeO.bind ?_ (fun _ => ?_)
    · intro y0 y1 y2 y3 y4 y5 y6 y7 y8 y9
      unfold impl_waysModulo.l1
      repeat' first
      | (with_reducible exact ih0 _ _ _ _ _ _ _)
      | (with_reducible exact ih1 _ _ _ _ _ _ _ _ _ _)
      | (with_reducible exact ih2 _ _ _ _ _ _ _ _ _ _ _ _ _)
      | (with_reducible exact LeO.refl _)
      | (with_reducible exact LeO.none _)
      | (with_reducible refine LeO.ite ?_ ?_)
      | (with_reducible refine LeO.bind ?_ (fun _ => ?_))
      | exact ih0 _ _ _ _ _ _ _
      | exact ih1 _ _ _ _ _ _ _ _ _ _
      | exact ih2 _ _ _ _ _ _ _ _ _ _ _ _ _
      | exact LeO.none _
      | refine LeO.ite ?_ ?_
      | refine LeO.bind ?_ (fun _ => ?_)
    · intro y0 y1 y2 y3 y4 y5 y6 y7 y8 y9 y10 y11 y12
      unfold impl_waysModulo.l2
      repeat' first
      | (with_reducible exact ih0 _ _ _ _ _ _ _)
      | (with_reducible exact ih1 _ _ _ _ _ _ _ _ _ _)
      | (with_reducible exact ih2 _ _ _ _ _ _ _ _ _ _ _ _ _)
      | (with_reducible exact LeO.refl _)
      | (with_reducible exact LeO.none _)
      | (with_reducible refine LeO.ite ?_ ?_)
      | (with_reducible refine LeO.bind ?_ (fun _ => ?_))
      | exact ih0 _ _ _ _ _ _ _
      | exact ih1 _ _ _ _ _ _ _ _ _ _
      | exact ih2 _ _ _ _ _ _ _ _ _ _ _ _ _
      | exact LeO.none _
      | refine LeO.ite ?_ ?_
      | refine LeO.bind ?_ (fun _ => ?_)
theorem impl_waysModulo.mono : ∀ a0 a1 a2 a3 k, LeO (impl_waysModulo.f k a0 a1 a2 a3) (impl_waysModulo.f (k + 1) a0 a1 a2 a3) := by
  intro a0 a1 a2 a3 k
  obtain ⟨ih0, ih1, ih2⟩ := impl_waysModulo.mono_l k
  unfold impl_waysModulo.f
  repeat' first
      | (with_reducible exact ih0 _ _ _ _ _ _ _)
      | (with_reducible exact ih1 _ _ _ _ _ _ _ _ _ _)
      | (with_reducible exact ih2 _ _ _ _ _ _ _ _ _ _ _ _ _)
      | (with_reducible exact LeO.refl _)
      | (with_reducible exact LeO.none _)
      | (with_reducible refine LeO.ite ?_ ?_)
      | (with_reducible refine LeO.bind ?_ (fun _ => ?_))
      | exact ih0 _ _ _ _ _ _ _
      | exact ih1 _ _ _ _ _ _ _ _ _ _
      | exact ih2 _ _ _ _ _ _ _ _ _ _ _ _ _
      | exact LeO.none _
      | refine LeO.ite ?_ ?_
      | refine LeO.bind ?_ (fun _ => ?_)
set_option maxHeartbeats 8000000 in
set_option maxRecDepth 100000 in
theorem impl_waysModulo.calls (k : Nat) (a0 : Int) (a1 : Int) (a2 : Int) (a3 : Int) (r : Int) (w : World) (h : impl_waysModulo.f k a0 a1 a2 a3 = some r) :
    Calls Try.prog 81 #[.int .i64 a0, .int .i64 a1, .int .i64 a2, .int .i64 a3] w fun e w' => e = .returned (.int .i64 r) ∧ Drawn0 w w' := by
  have H : (impl_waysModulo.l0 k a0 a1 a2 a3 0 a3 0) = some r := h
  clear h
  have H' := Aside0.mk H
  clear H
  go_enter Try.func81, Try.ntmps81
  go_wp2
  go_loopg [9, 14] k (fun kq v9 v14 w' => ∃ (x9_1 : Int) (x14_1 : Int), v9 = .int .i64 x9_1 ∧ v14 = .int .i64 x14_1 ∧ Aside0 (impl_waysModulo.l0 kq a0 a1 a2 a3 x9_1 a3 x14_1 = some r) ∧ Aside0 (kq ≤ k) ∧ Drawn0 w w')
  case atStart => exact ⟨(0), (0), (by first | rfl | (simp; done) | (simp [*]; done)), (by first | rfl | (simp; done) | (simp [*]; done)), H', ⟨Nat.le_refl _⟩, by repeat (first | exact Drawn0.refl _ | apply Drawn0.step)⟩
  case round =>
    clear H'
    try clear p2
    obtain ⟨x9_1, x14_1, rfl, rfl, HA, HK1, ⟨m1, rfl⟩⟩ := hrel
    cases gk with
    | zero => exact absurd HA.out (by simp [impl_waysModulo.l0])
    | succ k1 =>
      have H := HA.out
      clear HA
      simp only [impl_waysModulo.l0] at H
      by_cases c5 : x14_1 < a3
      · rw [if_pos c5] at H
        have c5b0 : decide (x14_1 < a3) = true := decide_eq_true c5
        clear c5
        have H' := Aside0.mk H
        clear H
        go_wp2
        go_loopg [9, 18] k1 (fun kq v9 v18 w' => ∃ (x9_2 : Int) (x18_2 : Int), v9 = .int .i64 x9_2 ∧ v18 = .int .i64 x18_2 ∧ Aside0 (impl_waysModulo.l1 kq a0 a1 a2 a3 x9_2 x14_1 a3 x14_1 a3 x18_2 = some r) ∧ Aside0 (kq ≤ k1) ∧ Drawn0 w w')
        case atStart => exact ⟨(x9_1), (0), (by first | rfl | (simp; done) | (simp [*]; done)), (by first | rfl | (simp; done) | (simp [*]; done)), H', ⟨Nat.le_refl _⟩, by repeat (first | exact Drawn0.refl _ | apply Drawn0.step)⟩
        case round =>
          clear H'
          try clear p2
          try clear c5
          try clear c5b0
          try clear p2
          obtain ⟨x9_2, x18_2, rfl, rfl, HA, HK2, ⟨m2, rfl⟩⟩ := hrel
          cases gk with
          | zero => exact absurd HA.out (by simp [impl_waysModulo.l1])
          | succ k2 =>
            have H := HA.out
            clear HA
            simp only [impl_waysModulo.l1] at H
            by_cases c6 : x18_2 < a3
            · rw [if_pos c6] at H
              have c6b0 : decide (x18_2 < a3) = true := decide_eq_true c6
              clear c6
              have H' := Aside0.mk H
              clear H
              go_wp2
              go_loopg [9, 22] k2 (fun kq v9 v22 w' => ∃ (x9_3 : Int) (x22_3 : Int), v9 = .int .i64 x9_3 ∧ v22 = .int .i64 x22_3 ∧ Aside0 (impl_waysModulo.l2 kq a0 a1 a2 a3 x9_3 x14_1 x18_2 a3 x14_1 a3 x18_2 a3 x22_3 = some r) ∧ Aside0 (kq ≤ k2) ∧ Drawn0 w w')
              case atStart => exact ⟨(x9_2), (0), (by first | rfl | (simp; done) | (simp [*]; done)), (by first | rfl | (simp; done) | (simp [*]; done)), H', ⟨Nat.le_refl _⟩, by repeat (first | exact Drawn0.refl _ | apply Drawn0.step)⟩
              case round =>
                clear H'
                try clear p2
                try clear c5
                try clear c5b0
                try clear c6
                try clear c6b0
                try clear p2
                obtain ⟨x9_3, x22_3, rfl, rfl, HA, HK3, ⟨m3, rfl⟩⟩ := hrel
                cases gk with
                | zero => exact absurd HA.out (by simp [impl_waysModulo.l2])
                | succ k3 =>
                  have H := HA.out
                  clear HA
                  simp only [impl_waysModulo.l2] at H
                  by_cases c7 : x22_3 < a3
                  · rw [if_pos c7] at H
                    have c7b0 : decide (x22_3 < a3) = true := decide_eq_true c7
                    clear c7
                    by_cases c8 : a2 = 0
                    · rw [if_pos c8] at H
                      exact absurd H (by simp)
                    · rw [if_neg c8] at H
                      have c8b0 : (a2 == 0) = false := beq_eq_false_iff_ne.mpr c8
                      have c8b1 : (a2 != 0) = true := bne_iff_ne.mpr c8
                      by_cases c9 : (Int.tmod x14_1 a2) = 0
                      · rw [if_pos c9] at H
                        have c9b0 : ((Int.tmod x14_1 a2) == 0) = true := beq_iff_eq.mpr c9
                        have c9b1 : ((Int.tmod x14_1 a2) != 0) = false := bne_eq_false_iff_eq.mpr c9
                        clear c9
                        by_cases c10 : (Int.tmod x18_2 a2) = 0
                        · rw [if_pos c10] at H
                          have c10b0 : ((Int.tmod x18_2 a2) == 0) = true := beq_iff_eq.mpr c10
                          have c10b1 : ((Int.tmod x18_2 a2) != 0) = false := bne_eq_false_iff_eq.mpr c10
                          clear c10
                          by_cases c11 : (Int.tmod x22_3 a2) = 0
                          · rw [if_pos c11] at H
                            have c11b0 : ((Int.tmod x22_3 a2) == 0) = true := beq_iff_eq.mpr c11
                            have c11b1 : ((Int.tmod x22_3 a2) != 0) = false := bne_eq_false_iff_eq.mpr c11
                            clear c11
                            have H' := Aside0.mk H
                            clear H
                            go_wp2
                            go_roundg k3
                            case measure => have := HK1.out; have := HK2.out; have := HK3.out; omega
                            case rel => exact ⟨(x9_3), (wrap64 (x22_3 + 1)), (by first | rfl | (simp; done) | (simp [*]; done)), (by first | rfl | (simp; done) | (simp [*]; done)), H', ⟨by have := HK1.out; have := HK2.out; have := HK3.out; omega⟩, by repeat (first | exact Drawn0.refl _ | apply Drawn0.step)⟩
                          · rw [if_neg c11] at H
                            have c11b0 : ((Int.tmod x22_3 a2) == 0) = false := beq_eq_false_iff_ne.mpr c11
                            have c11b1 : ((Int.tmod x22_3 a2) != 0) = true := bne_iff_ne.mpr c11
                            replace H := Option.bind_eq_some_iff.mp H
                            obtain ⟨t167, A120, H⟩ := H
                            replace H : (if t167 = 0 then (impl_waysModulo.l2 k3 a0 a1 a2 a3 (wrap64 (x9_3 + 1)) x14_1 x18_2 a3 x14_1 a3 x18_2 a3 (wrap64 (x22_3 + 1))) else (impl_waysModulo.l2 k3 a0 a1 a2 a3 x9_3 x14_1 x18_2 a3 x14_1 a3 x18_2 a3 (wrap64 (x22_3 + 1)))) = some r := H
                            have A12 := Aside0.mk A120
                            clear A120
                            by_cases c13 : t167 = 0
                            · rw [if_pos c13] at H
                              have c13b0 : (t167 == 0) = true := beq_iff_eq.mpr c13
                              have c13b1 : (t167 != 0) = false := bne_eq_false_iff_eq.mpr c13
                              clear c13
                              have H' := Aside0.mk H
                              clear H
                              go_wp2_with (first | (go_at_call 73; (with_reducible refine (impl_rest.calls (wrap64 ((wrap64 ((wrap64 (x22_3 * x22_3)) - (wrap64 ((wrap64 (a0 * x14_1)) * x14_1)))) - (wrap64 ((wrap64 (a1 * x18_2)) * x18_2)))) a3 t167 _ A12.out).mono ?_); rintro e w' ⟨rfl, ⟨nd, rfl⟩⟩))
                              go_roundg k3
                              case measure => have := HK1.out; have := HK2.out; have := HK3.out; omega
                              case rel => exact ⟨(wrap64 (x9_3 + 1)), (wrap64 (x22_3 + 1)), (by first | rfl | (simp; done) | (simp [*]; done)), (by first | rfl | (simp; done) | (simp [*]; done)), H', ⟨by have := HK1.out; have := HK2.out; have := HK3.out; omega⟩, by repeat (first | exact Drawn0.refl _ | apply Drawn0.step)⟩
                            · rw [if_neg c13] at H
                              have c13b0 : (t167 == 0) = false := beq_eq_false_iff_ne.mpr c13
                              have c13b1 : (t167 != 0) = true := bne_iff_ne.mpr c13
                              have H' := Aside0.mk H
                              clear H
                              go_wp2_with (first | (go_at_call 73; (with_reducible refine (impl_rest.calls (wrap64 ((wrap64 ((wrap64 (x22_3 * x22_3)) - (wrap64 ((wrap64 (a0 * x14_1)) * x14_1)))) - (wrap64 ((wrap64 (a1 * x18_2)) * x18_2)))) a3 t167 _ A12.out).mono ?_); rintro e w' ⟨rfl, ⟨nd, rfl⟩⟩))
                              go_roundg k3
                              case measure => have := HK1.out; have := HK2.out; have := HK3.out; omega
                              case rel => exact ⟨(x9_3), (wrap64 (x22_3 + 1)), (by first | rfl | (simp; done) | (simp [*]; done)), (by first | rfl | (simp; done) | (simp [*]; done)), H', ⟨by have := HK1.out; have := HK2.out; have := HK3.out; omega⟩, by repeat (first | exact Drawn0.refl _ | apply Drawn0.step)⟩
                        · rw [if_neg c10] at H
                          have c10b0 : ((Int.tmod x18_2 a2) == 0) = false := beq_eq_false_iff_ne.mpr c10
                          have c10b1 : ((Int.tmod x18_2 a2) != 0) = true := bne_iff_ne.mpr c10
                          replace H := Option.bind_eq_some_iff.mp H
                          obtain ⟨t168, A140, H⟩ := H
                          replace H : (if t168 = 0 then (impl_waysModulo.l2 k3 a0 a1 a2 a3 (wrap64 (x9_3 + 1)) x14_1 x18_2 a3 x14_1 a3 x18_2 a3 (wrap64 (x22_3 + 1))) else (impl_waysModulo.l2 k3 a0 a1 a2 a3 x9_3 x14_1 x18_2 a3 x14_1 a3 x18_2 a3 (wrap64 (x22_3 + 1)))) = some r := H
                          have A14 := Aside0.mk A140
                          clear A140
                          by_cases c15 : t168 = 0
                          · rw [if_pos c15] at H
                            have c15b0 : (t168 == 0) = true := beq_iff_eq.mpr c15
                            have c15b1 : (t168 != 0) = false := bne_eq_false_iff_eq.mpr c15
                            clear c15
                            have H' := Aside0.mk H
                            clear H
                            go_wp2_with (first | (go_at_call 73; (with_reducible refine (impl_rest.calls (wrap64 ((wrap64 ((wrap64 (x22_3 * x22_3)) - (wrap64 ((wrap64 (a0 * x14_1)) * x14_1)))) - (wrap64 ((wrap64 (a1 * x18_2)) * x18_2)))) a3 t168 _ A14.out).mono ?_); rintro e w' ⟨rfl, ⟨nd, rfl⟩⟩))
                            go_roundg k3
                            case measure => have := HK1.out; have := HK2.out; have := HK3.out; omega
                            case rel => exact ⟨(wrap64 (x9_3 + 1)), (wrap64 (x22_3 + 1)), (by first | rfl | (simp; done) | (simp [*]; done)), (by first | rfl | (simp; done) | (simp [*]; done)), H', ⟨by have := HK1.out; have := HK2.out; have := HK3.out; omega⟩, by repeat (first | exact Drawn0.refl _ | apply Drawn0.step)⟩
                          · rw [if_neg c15] at H
                            have c15b0 : (t168 == 0) = false := beq_eq_false_iff_ne.mpr c15
                            have c15b1 : (t168 != 0) = true := bne_iff_ne.mpr c15
                            have H' := Aside0.mk H
                            clear H
                            go_wp2_with (first | (go_at_call 73; (with_reducible refine (impl_rest.calls (wrap64 ((wrap64 ((wrap64 (x22_3 * x22_3)) - (wrap64 ((wrap64 (a0 * x14_1)) * x14_1)))) - (wrap64 ((wrap64 (a1 * x18_2)) * x18_2)))) a3 t168 _ A14.out).mono ?_); rintro e w' ⟨rfl, ⟨nd, rfl⟩⟩))
                            go_roundg k3
                            case measure => have := HK1.out; have := HK2.out; have := HK3.out; omega
                            case rel => exact ⟨(x9_3), (wrap64 (x22_3 + 1)), (by first | rfl | (simp; done) | (simp [*]; done)), (by first | rfl | (simp; done) | (simp [*]; done)), H', ⟨by have := HK1.out; have := HK2.out; have := HK3.out; omega⟩, by repeat (first | exact Drawn0.refl _ | apply Drawn0.step)⟩
                      · rw [if_neg c9] at H
                        have c9b0 : ((Int.tmod x14_1 a2) == 0) = false := beq_eq_false_iff_ne.mpr c9
                        have c9b1 : ((Int.tmod x14_1 a2) != 0) = true := bne_iff_ne.mpr c9
                        replace H := Option.bind_eq_some_iff.mp H
                        obtain ⟨t169, A160, H⟩ := H
                        replace H : (if t169 = 0 then (impl_waysModulo.l2 k3 a0 a1 a2 a3 (wrap64 (x9_3 + 1)) x14_1 x18_2 a3 x14_1 a3 x18_2 a3 (wrap64 (x22_3 + 1))) else (impl_waysModulo.l2 k3 a0 a1 a2 a3 x9_3 x14_1 x18_2 a3 x14_1 a3 x18_2 a3 (wrap64 (x22_3 + 1)))) = some r := H
                        have A16 := Aside0.mk A160
                        clear A160
                        by_cases c17 : t169 = 0
                        · rw [if_pos c17] at H
                          have c17b0 : (t169 == 0) = true := beq_iff_eq.mpr c17
                          have c17b1 : (t169 != 0) = false := bne_eq_false_iff_eq.mpr c17
                          clear c17
                          have H' := Aside0.mk H
                          clear H
                          go_wp2_with (first | (go_at_call 73; (with_reducible refine (impl_rest.calls (wrap64 ((wrap64 ((wrap64 (x22_3 * x22_3)) - (wrap64 ((wrap64 (a0 * x14_1)) * x14_1)))) - (wrap64 ((wrap64 (a1 * x18_2)) * x18_2)))) a3 t169 _ A16.out).mono ?_); rintro e w' ⟨rfl, ⟨nd, rfl⟩⟩))
                          go_roundg k3
                          case measure => have := HK1.out; have := HK2.out; have := HK3.out; omega
                          case rel => exact ⟨(wrap64 (x9_3 + 1)), (wrap64 (x22_3 + 1)), (by first | rfl | (simp; done) | (simp [*]; done)), (by first | rfl | (simp; done) | (simp [*]; done)), H', ⟨by have := HK1.out; have := HK2.out; have := HK3.out; omega⟩, by repeat (first | exact Drawn0.refl _ | apply Drawn0.step)⟩
                        · rw [if_neg c17] at H
                          have c17b0 : (t169 == 0) = false := beq_eq_false_iff_ne.mpr c17
                          have c17b1 : (t169 != 0) = true := bne_iff_ne.mpr c17
                          have H' := Aside0.mk H
                          clear H
                          go_wp2_with (first | (go_at_call 73; (with_reducible refine (impl_rest.calls (wrap64 ((wrap64 ((wrap64 (x22_3 * x22_3)) - (wrap64 ((wrap64 (a0 * x14_1)) * x14_1)))) - (wrap64 ((wrap64 (a1 * x18_2)) * x18_2)))) a3 t169 _ A16.out).mono ?_); rintro e w' ⟨rfl, ⟨nd, rfl⟩⟩))
                          go_roundg k3
                          case measure => have := HK1.out; have := HK2.out; have := HK3.out; omega
                          case rel => exact ⟨(x9_3), (wrap64 (x22_3 + 1)), (by first | rfl | (simp; done) | (simp [*]; done)), (by first | rfl | (simp; done) | (simp [*]; done)), H', ⟨by have := HK1.out; have := HK2.out; have := HK3.out; omega⟩, by repeat (first | exact Drawn0.refl _ | apply Drawn0.step)⟩
                  · rw [if_neg c7] at H
                    have c7b0 : decide (x22_3 < a3) = false := decide_eq_false c7
                    clear c7
                    have H' := Aside0.mk H
                    clear H
                    go_wp2
                    go_roundg k3
                    case measure => have := HK1.out; have := HK2.out; have := HK3.out; omega
                    case rel => exact ⟨(x9_3), (wrap64 (x18_2 + 1)), (by first | rfl | (simp; done) | (simp [*]; done)), (by first | rfl | (simp; done) | (simp [*]; done)), H', ⟨by have := HK1.out; have := HK2.out; have := HK3.out; omega⟩, by repeat (first | exact Drawn0.refl _ | apply Drawn0.step)⟩
            · rw [if_neg c6] at H
              have c6b0 : decide (x18_2 < a3) = false := decide_eq_false c6
              clear c6
              have H' := Aside0.mk H
              clear H
              go_wp2
              go_roundg k2
              case measure => have := HK1.out; have := HK2.out; omega
              case rel => exact ⟨(x9_2), (wrap64 (x14_1 + 1)), (by first | rfl | (simp; done) | (simp [*]; done)), (by first | rfl | (simp; done) | (simp [*]; done)), H', ⟨by have := HK1.out; have := HK2.out; omega⟩, by repeat (first | exact Drawn0.refl _ | apply Drawn0.step)⟩
      · rw [if_neg c5] at H
        have c5b0 : decide (x14_1 < a3) = false := decide_eq_false c5
        clear c5
        obtain rfl := Option.some.inj H
        go_wp2
        go_ret
        exact ⟨by first | rfl | (simp; done) | (simp [*]; done), by repeat (first | exact Drawn0.refl _ | apply Drawn0.step)⟩

/-! ### impl_SymbolWays: function 46 -/
def impl_SymbolWays.f (k : Nat) (a0 : Int) (a1 : Int) (a2 : Int) : Option (Int) := (impl_bothNumbers.f a0 a1).bind fun t170 => (if t170 = true then ((impl_PrimeIs.f k a2).bind fun t171 => (if t171 = true then (if a2 > 31 then (some (-1)) else ((impl_waysModulo.f k a0 a1 a2 a2).bind fun t172 => (some t172))) else (some (-1)))) else (some (-1)))
theorem impl_SymbolWays.mono : ∀ a0 a1 a2 k, LeO (impl_SymbolWays.f k a0 a1 a2) (impl_SymbolWays.f (k + 1) a0 a1 a2) := by
  intro a0 a1 a2 k
  unfold impl_SymbolWays.f
  repeat' first
      | (with_reducible exact impl_PrimeIs.mono _ _)
      | (with_reducible exact impl_waysModulo.mono _ _ _ _ _)
      | (with_reducible exact LeO.refl _)
      | (with_reducible exact LeO.none _)
      | (with_reducible refine LeO.ite ?_ ?_)
      | (with_reducible refine LeO.bind ?_ (fun _ => ?_))
      | exact impl_PrimeIs.mono _ _
      | exact impl_waysModulo.mono _ _ _ _ _
      | exact LeO.none _
      | refine LeO.ite ?_ ?_
      | refine LeO.bind ?_ (fun _ => ?_)
set_option maxHeartbeats 8000000 in
set_option maxRecDepth 100000 in
theorem impl_SymbolWays.calls (k : Nat) (a0 : Int) (a1 : Int) (a2 : Int) (r : Int) (w : World) (h : impl_SymbolWays.f k a0 a1 a2 = some r) :
    Calls Try.prog 46 #[.int .i64 a0, .int .i64 a1, .int .i64 a2] w fun e w' => e = .returned (.int .i64 r) ∧ Drawn0 w w' := by
  have H : ((impl_bothNumbers.f a0 a1).bind fun t170 => (if t170 = true then ((impl_PrimeIs.f k a2).bind fun t171 => (if t171 = true then (if a2 > 31 then (some (-1)) else ((impl_waysModulo.f k a0 a1 a2 a2).bind fun t172 => (some t172))) else (some (-1)))) else (some (-1)))) = some r := h
  clear h
  replace H := Option.bind_eq_some_iff.mp H
  obtain ⟨t170, A40, H⟩ := H
  replace H : (if t170 = true then ((impl_PrimeIs.f k a2).bind fun t171 => (if t171 = true then (if a2 > 31 then (some (-1)) else ((impl_waysModulo.f k a0 a1 a2 a2).bind fun t172 => (some t172))) else (some (-1)))) else (some (-1))) = some r := H
  have A4 := Aside0.mk A40
  clear A40
  by_cases c5 : t170 = true
  · subst c5
    have H1 : ((impl_PrimeIs.f k a2).bind fun t171 => (if t171 = true then (if a2 > 31 then (some (-1)) else ((impl_waysModulo.f k a0 a1 a2 a2).bind fun t172 => (some t172))) else (some (-1)))) = some r := by rw [if_pos rfl] at H; exact H
    clear H
    have H := H1
    clear H1
    replace H := Option.bind_eq_some_iff.mp H
    obtain ⟨t171, A60, H⟩ := H
    replace H : (if t171 = true then (if a2 > 31 then (some (-1)) else ((impl_waysModulo.f k a0 a1 a2 a2).bind fun t172 => (some t172))) else (some (-1))) = some r := H
    have A6 := Aside0.mk A60
    clear A60
    by_cases c7 : t171 = true
    · subst c7
      have H1 : (if a2 > 31 then (some (-1)) else ((impl_waysModulo.f k a0 a1 a2 a2).bind fun t172 => (some t172))) = some r := by rw [if_pos rfl] at H; exact H
      clear H
      have H := H1
      clear H1
      by_cases c8 : a2 > 31
      · rw [if_pos c8] at H
        have c8b0 : decide (31 < a2) = true := decide_eq_true c8
        clear c8
        obtain rfl := Option.some.inj H
        go_enter Try.func46, Try.ntmps46
        go_wp2_with (first | ((with_reducible refine gate_callee (f := 80) rfl ?_); refine goesL_ (some 9) rfl rfl Try.func80 (by kernel_rfl) rfl #[.int .i64 a0, .int .i64 a1] rfl (by (try simp only [List.map_toArray, List.map_cons, List.map_nil]); first | done | rfl | (simp only [List.length_drop, List.length_take]; rfl)) ?_; (with_reducible refine (impl_bothNumbers.calls a0 a1 true _ A4.out).mono ?_); rintro e w' ⟨rfl, ⟨nd, rfl⟩⟩; refine ⟨_, rfl, ?_⟩) | (go_at_call 25; (with_reducible refine (impl_PrimeIs.calls k a2 true _ A6.out).mono ?_); rintro e w' ⟨rfl, ⟨nd, rfl⟩⟩))
        go_ret
        exact ⟨by first | rfl | (simp; done) | (simp [*]; done), by repeat (first | exact Drawn0.refl _ | apply Drawn0.step)⟩
      · rw [if_neg c8] at H
        have c8b0 : decide (31 < a2) = false := decide_eq_false c8
        clear c8
        replace H := Option.bind_eq_some_iff.mp H
        obtain ⟨t172, A90, H⟩ := H
        replace H : (some t172) = some r := H
        have A9 := Aside0.mk A90
        clear A90
        obtain rfl := Option.some.inj H
        go_enter Try.func46, Try.ntmps46
        go_wp2_with (first | ((with_reducible refine gate_callee (f := 80) rfl ?_); refine goesL_ (some 9) rfl rfl Try.func80 (by kernel_rfl) rfl #[.int .i64 a0, .int .i64 a1] rfl (by (try simp only [List.map_toArray, List.map_cons, List.map_nil]); first | done | rfl | (simp only [List.length_drop, List.length_take]; rfl)) ?_; (with_reducible refine (impl_bothNumbers.calls a0 a1 true _ A4.out).mono ?_); rintro e w' ⟨rfl, ⟨nd, rfl⟩⟩; refine ⟨_, rfl, ?_⟩) | (go_at_call 25; (with_reducible refine (impl_PrimeIs.calls k a2 true _ A6.out).mono ?_); rintro e w' ⟨rfl, ⟨nd, rfl⟩⟩) | ((with_reducible refine gate_callee (f := 81) rfl ?_); refine goesL_ (some 24) rfl rfl Try.func81 (by kernel_rfl) rfl #[.int .i64 a0, .int .i64 a1, .int .i64 a2, .int .i64 a2] rfl (by (try simp only [List.map_toArray, List.map_cons, List.map_nil]); first | done | rfl | (simp only [List.length_drop, List.length_take]; rfl)) ?_; (with_reducible refine (impl_waysModulo.calls k a0 a1 a2 a2 t172 _ A9.out).mono ?_); rintro e w' ⟨rfl, ⟨nd, rfl⟩⟩; refine ⟨_, rfl, ?_⟩))
        go_ret
        exact ⟨by first | rfl | (simp; done) | (simp [*]; done), by repeat (first | exact Drawn0.refl _ | apply Drawn0.step)⟩
    · replace c7 := Bool.eq_false_iff.mpr c7
      subst c7
      have H1 : (some (-1)) = some r := by rw [if_neg (show ¬ (false = true) by decide)] at H; exact H
      clear H
      have H := H1
      clear H1
      obtain rfl := Option.some.inj H
      go_enter Try.func46, Try.ntmps46
      go_wp2_with (first | ((with_reducible refine gate_callee (f := 80) rfl ?_); refine goesL_ (some 9) rfl rfl Try.func80 (by kernel_rfl) rfl #[.int .i64 a0, .int .i64 a1] rfl (by (try simp only [List.map_toArray, List.map_cons, List.map_nil]); first | done | rfl | (simp only [List.length_drop, List.length_take]; rfl)) ?_; (with_reducible refine (impl_bothNumbers.calls a0 a1 true _ A4.out).mono ?_); rintro e w' ⟨rfl, ⟨nd, rfl⟩⟩; refine ⟨_, rfl, ?_⟩) | (go_at_call 25; (with_reducible refine (impl_PrimeIs.calls k a2 false _ A6.out).mono ?_); rintro e w' ⟨rfl, ⟨nd, rfl⟩⟩))
      go_ret
      exact ⟨by first | rfl | (simp; done) | (simp [*]; done), by repeat (first | exact Drawn0.refl _ | apply Drawn0.step)⟩
  · replace c5 := Bool.eq_false_iff.mpr c5
    subst c5
    have H1 : (some (-1)) = some r := by rw [if_neg (show ¬ (false = true) by decide)] at H; exact H
    clear H
    have H := H1
    clear H1
    obtain rfl := Option.some.inj H
    go_enter Try.func46, Try.ntmps46
    go_wp2_with (first | ((with_reducible refine gate_callee (f := 80) rfl ?_); refine goesL_ (some 9) rfl rfl Try.func80 (by kernel_rfl) rfl #[.int .i64 a0, .int .i64 a1] rfl (by (try simp only [List.map_toArray, List.map_cons, List.map_nil]); first | done | rfl | (simp only [List.length_drop, List.length_take]; rfl)) ?_; (with_reducible refine (impl_bothNumbers.calls a0 a1 false _ A4.out).mono ?_); rintro e w' ⟨rfl, ⟨nd, rfl⟩⟩; refine ⟨_, rfl, ?_⟩))
    go_ret
    exact ⟨by first | rfl | (simp; done) | (simp [*]; done), by repeat (first | exact Drawn0.refl _ | apply Drawn0.step)⟩

end Go.Proofs.Ytnbjnlbaoogbmaa.PFnWays
