-- Printed for this claim by a turned copy of the print (wip/tools/patch.py); a text of this session, not of print.sh.
import Derived.Test.YtjlmlmacgopliaaPPlanx0
import Derived.Test.YtjlmlmacgopliaaPPlanx2
import Derived.Test.YtjlmlmacgopliaaPPlanx6
import Derived.Test.YtjlmlmacgopliaaPPlanx7
namespace Go.Proofs.Ytjlmlmacgopliaa.PPlan
open Go.RowKit Go.Proofs.YtjlmlmacgopliaaW.PrintWords Go.Proofs.YtjlmlmacgopliaaW.PrintLast Go.Proofs.YtjlmlmacgopliaaW.PrintMore
attribute [local go_sem] max2_int min2_int max_two min_two max_three min_three max_four min_four   -- for this text's walks alone
set_option linter.unusedVariables false
set_option linter.unusedSimpArgs false

/-! ### haywainlaw10_PlanMoves: function 3 -/
def haywainlaw10_PlanMoves.j0 : Nat → List Int → List Int → Bool → Option (Bool)
  | 0, _, _, _ => none
  | k + 1, x0, x1, x14 => if x14 = true then ((haywainlaw10_knows.f k).bind fun t342 => (some t342)) else ((plan_Moves.f k x0 x1).bind fun bt343 => ((haywainref10_Moves.f k x0 x1).bind fun bt347 => ((haywainlaw10_same.f k bt343.1 bt347.1).bind fun t351 => (if t351 = true then (if bt343.2 = bt347.2 then ((plan_Right.f k x0).bind fun t352 => ((haywainref10_Right.f k x0).bind fun t353 => (if (t352 == t353) = true then ((haywainlaw10_knows.f k).bind fun t354 => (some t354)) else (none)))) else (none)) else (none)))))
def haywainlaw10_PlanMoves.f (k : Nat) (l0 : List Int) (l1 : List Int) : Option (Bool) := (haywainlaw10_great.f l0).bind fun t340 => (if t340 = true then (haywainlaw10_PlanMoves.j0 k l0 l1 true) else ((haywainlaw10_great.f l1).bind fun t341 => (haywainlaw10_PlanMoves.j0 k l0 l1 t341)))
theorem haywainlaw10_PlanMoves.mono_l : ∀ k, (∀ y0 y1 y2, LeO (haywainlaw10_PlanMoves.j0 k y0 y1 y2) (haywainlaw10_PlanMoves.j0 (k + 1) y0 y1 y2))
  | 0 => fun _ _ _ r h => by simp [haywainlaw10_PlanMoves.j0] at h
  | k + 1 => by
    have ih0 := haywainlaw10_PlanMoves.mono_l k
    · intro y0 y1 y2
      unfold haywainlaw10_PlanMoves.j0
      repeat' first
      | (with_reducible exact ih0 _ _ _)
      | (with_reducible exact haywainlaw10_knows.mono _)
      | (with_reducible exact haywainlaw10_same.mono _ _ _)
      | (with_reducible exact haywainref10_Moves.mono _ _ _)
      | (with_reducible exact haywainref10_Right.mono _ _)
      | (with_reducible exact plan_Moves.mono _ _ _)
      | (with_reducible exact plan_Right.mono _ _)
      | (with_reducible exact LeO.refl _)
      | (with_reducible exact LeO.none _)
      | (with_reducible refine LeO.ite ?_ ?_)
      | (with_reducible refine LeO.bind ?_ (fun _ => ?_))
      | exact ih0 _ _ _
      | exact haywainlaw10_knows.mono _
      | exact haywainlaw10_same.mono _ _ _
      | exact haywainref10_Moves.mono _ _ _
      | exact haywainref10_Right.mono _ _
      | exact plan_Moves.mono _ _ _
      | exact plan_Right.mono _ _
      | exact LeO.none _
      | refine LeO.ite ?_ ?_
      | refine LeO.bind ?_ (fun _ => ?_)
theorem haywainlaw10_PlanMoves.mono : ∀ a0 a1 k, LeO (haywainlaw10_PlanMoves.f k a0 a1) (haywainlaw10_PlanMoves.f (k + 1) a0 a1) := by
  intro a0 a1 k
  have ih0 := haywainlaw10_PlanMoves.mono_l k
  unfold haywainlaw10_PlanMoves.f
  repeat' first
      | (with_reducible exact ih0 _ _ _)
      | (with_reducible exact haywainlaw10_knows.mono _)
      | (with_reducible exact haywainlaw10_same.mono _ _ _)
      | (with_reducible exact haywainref10_Moves.mono _ _ _)
      | (with_reducible exact haywainref10_Right.mono _ _)
      | (with_reducible exact plan_Moves.mono _ _ _)
      | (with_reducible exact plan_Right.mono _ _)
      | (with_reducible exact LeO.refl _)
      | (with_reducible exact LeO.none _)
      | (with_reducible refine LeO.ite ?_ ?_)
      | (with_reducible refine LeO.bind ?_ (fun _ => ?_))
      | exact ih0 _ _ _
      | exact haywainlaw10_knows.mono _
      | exact haywainlaw10_same.mono _ _ _
      | exact haywainref10_Moves.mono _ _ _
      | exact haywainref10_Right.mono _ _
      | exact plan_Moves.mono _ _ _
      | exact plan_Right.mono _ _
      | exact LeO.none _
      | refine LeO.ite ?_ ?_
      | refine LeO.bind ?_ (fun _ => ?_)
set_option maxHeartbeats 8000000 in
set_option maxRecDepth 100000 in
theorem haywainlaw10_PlanMoves.calls (k : Nat) (A0 : Option Addr) (c0 : Nat) (l0 : List Int) (A1 : Option Addr) (c1 : Nat) (l1 : List Int) (r : Bool) (w : World) (hr0 : Kd.C (Kd.int .i64) w A0 l0.length l0) (hc0 : l0.length ≤ c0) (hr1 : Kd.C (Kd.int .i64) w A1 l1.length l1) (hc1 : l1.length ≤ c1) (h : haywainlaw10_PlanMoves.f k l0 l1 = some r) :
    Calls Try.prog 3 #[.slice A0 l0.length c0, .slice A1 l1.length c1] w fun e w' => e = .returned (.bool r) ∧ Below w.heap.size w w' := by
  have HR0 := Aside0.mk hr0
  have HC0 := Aside0.mk hc0
  clear hr0 hc0
  have HR1 := Aside0.mk hr1
  have HC1 := Aside0.mk hc1
  clear hr1 hc1
  have HB := Aside0.mk (Below.refl w.heap.size w)
  have H : ((haywainlaw10_great.f l0).bind fun t340 => (if t340 = true then (haywainlaw10_PlanMoves.j0 k l0 l1 true) else ((haywainlaw10_great.f l1).bind fun t341 => (haywainlaw10_PlanMoves.j0 k l0 l1 t341)))) = some r := h
  clear h
  have HC3 := Aside0.mk H
  clear H
  go_enter Try.func3, Try.ntmps3
  go_upto_region 1 with (fail)
  go_cut [14] (fun v14 wc => ∃ (kq : Nat) (x14_2 : Bool), v14 = .bool x14_2 ∧ Aside0 (haywainlaw10_PlanMoves.j0 kq l0 l1 x14_2 = some r) ∧ Aside0 (kq ≤ k) ∧ Aside0 (Below w.heap.size w wc))
  case first =>
    have H := HC3.out
    clear HC3
    replace H := Option.bind_eq_some_iff.mp H
    obtain ⟨t340, A40, H⟩ := H
    replace H : (if t340 = true then (haywainlaw10_PlanMoves.j0 k l0 l1 true) else ((haywainlaw10_great.f l1).bind fun t341 => (haywainlaw10_PlanMoves.j0 k l0 l1 t341))) = some r := H
    have A4 := Aside0.mk A40
    clear A40
    by_cases c5 : t340 = true
    · subst c5
      have H1 : (haywainlaw10_PlanMoves.j0 k l0 l1 true) = some r := by rw [if_pos rfl] at H; exact H
      clear H
      have H := H1
      clear H1
      have H' := Aside0.mk H
      clear H
      go_wp2_with (first | ((with_reducible refine gate_callee (f := 10) rfl ?_); refine goesL_ (some 10) rfl rfl Try.func10 (by kernel_rfl) rfl #[.slice A0 l0.length c0] rfl (by (try simp only [List.map_toArray, List.map_cons, List.map_nil]); first | done | rfl | (simp only [List.length_drop, List.length_take]; rfl)) ?_; (with_reducible refine (haywainlaw10_great.calls _ _ l0 true _ ?side1 ?side2 A4.out).mono ?_); (case side1 => repeat (first | exact (Kd.C_below HR0.out HB.out) | (with_reducible refine Kd.C_alloc ?_ _) | (with_reducible refine Kd.C_drewN ?_ _) | (with_reducible refine Kd.C_drew ?_))); (case side2 => exact HC0.out); rintro e w' ⟨rfl, ⟨nd, rfl⟩⟩; refine ⟨_, rfl, ?_⟩))
      go_meet
      case rel => exact ⟨_, (true), (by first | rfl | (simp; done) | (simp [*]; done)), H', ⟨by first | omega | exact Nat.le_refl _⟩, ⟨by repeat (first | (with_reducible first | exact HB.out | apply below_alloc | apply pw_below_drewN | apply below_drew1) | exact HB.out)⟩⟩
    · replace c5 := Bool.eq_false_iff.mpr c5
      subst c5
      have H1 : ((haywainlaw10_great.f l1).bind fun t341 => (haywainlaw10_PlanMoves.j0 k l0 l1 t341)) = some r := by rw [if_neg (show ¬ (false = true) by decide)] at H; exact H
      clear H
      have H := H1
      clear H1
      replace H := Option.bind_eq_some_iff.mp H
      obtain ⟨t341, A60, H⟩ := H
      replace H : (haywainlaw10_PlanMoves.j0 k l0 l1 t341) = some r := H
      have A6 := Aside0.mk A60
      clear A60
      have H' := Aside0.mk H
      clear H
      go_wp2_with (first | ((with_reducible refine gate_callee (f := 10) rfl ?_); refine goesL_ (some 10) rfl rfl Try.func10 (by kernel_rfl) rfl #[.slice A0 l0.length c0] rfl (by (try simp only [List.map_toArray, List.map_cons, List.map_nil]); first | done | rfl | (simp only [List.length_drop, List.length_take]; rfl)) ?_; (with_reducible refine (haywainlaw10_great.calls _ _ l0 false _ ?side1 ?side2 A4.out).mono ?_); (case side1 => repeat (first | exact (Kd.C_below HR0.out HB.out) | (with_reducible refine Kd.C_alloc ?_ _) | (with_reducible refine Kd.C_drewN ?_ _) | (with_reducible refine Kd.C_drew ?_))); (case side2 => exact HC0.out); rintro e w' ⟨rfl, ⟨nd, rfl⟩⟩; refine ⟨_, rfl, ?_⟩) | (go_at_call 10; (with_reducible refine (haywainlaw10_great.calls _ _ l1 t341 _ ?side1 ?side2 A6.out).mono ?_); (case side1 => repeat (first | exact (Kd.C_below HR1.out (by repeat (first | (with_reducible first | exact HB.out | apply below_alloc | apply pw_below_drewN | apply below_drew1) | exact HB.out))) | (with_reducible refine Kd.C_alloc ?_ _) | (with_reducible refine Kd.C_drewN ?_ _) | (with_reducible refine Kd.C_drew ?_))); (case side2 => exact HC1.out); rintro e w' ⟨rfl, ⟨nd, rfl⟩⟩))
      go_meet
      case rel => exact ⟨_, (t341), (by first | rfl | (simp; done) | (simp [*]; done)), H', ⟨by first | omega | exact Nat.le_refl _⟩, ⟨by repeat (first | (with_reducible first | exact HB.out | apply below_alloc | apply pw_below_drewN | apply below_drew1) | exact HB.out)⟩⟩
  case rest =>
    clear HC3
    try clear c1
    try clear p2
    try clear c3
    try clear c5
    obtain ⟨kq, x14_2, rfl, HA, HJ2, HB⟩ := hcut
    cases kq with
    | zero => exact absurd HA.out (by simp [haywainlaw10_PlanMoves.j0])
    | succ kj2 =>
      have H := HA.out
      clear HA
      simp only [haywainlaw10_PlanMoves.j0] at H
      by_cases c7 : x14_2 = true
      · subst c7
        have H1 : ((haywainlaw10_knows.f kj2).bind fun t342 => (some t342)) = some r := by rw [if_pos rfl] at H; exact H
        clear H
        have H := H1
        clear H1
        replace H := Option.bind_eq_some_iff.mp H
        obtain ⟨t342, A80, H⟩ := H
        replace H : (some t342) = some r := H
        have A8 := Aside0.mk A80
        clear A80
        obtain rfl := Option.some.inj H
        go_wp2_with (first | ((with_reducible refine gate_callee (f := 11) rfl ?_); refine goesL_ (some 15) rfl rfl Try.func11 (by kernel_rfl) rfl #[] rfl (by (try simp only [List.map_toArray, List.map_cons, List.map_nil]); first | done | rfl | (simp only [List.length_drop, List.length_take]; rfl)) ?_; (with_reducible refine (haywainlaw10_knows.calls kj2  t342 _ A8.out).mono ?_); rintro e w9 ⟨rfl, hb⟩; refine ⟨_, rfl, ?_⟩; have n0_ := Aside0.mk (below_step (by repeat (first | (with_reducible first | exact HB.out | apply below_alloc | apply pw_below_drewN | apply below_drew1) | exact HB.out)) hb); clear HB; have HB := n0_; clear n0_; (try clear hb); (try clear hb2); (try clear hk); (try clear hi)))
        go_ret
        exact ⟨by first | rfl | (simp [errW_none, errW_some] <;> rfl) | (simp [*, errW_none, errW_some] <;> rfl), by repeat (first | (with_reducible first | exact HB.out | apply below_alloc | apply pw_below_drewN | apply below_drew1) | exact HB.out)⟩
      · replace c7 := Bool.eq_false_iff.mpr c7
        subst c7
        have H1 : ((plan_Moves.f kj2 l0 l1).bind fun bt343 => ((haywainref10_Moves.f kj2 l0 l1).bind fun bt347 => ((haywainlaw10_same.f kj2 bt343.1 bt347.1).bind fun t351 => (if t351 = true then (if bt343.2 = bt347.2 then ((plan_Right.f kj2 l0).bind fun t352 => ((haywainref10_Right.f kj2 l0).bind fun t353 => (if (t352 == t353) = true then ((haywainlaw10_knows.f kj2).bind fun t354 => (some t354)) else (none)))) else (none)) else (none))))) = some r := by rw [if_neg (show ¬ (false = true) by decide)] at H; exact H
        clear H
        have H := H1
        clear H1
        replace H := Option.bind_eq_some_iff.mp H
        obtain ⟨⟨t343, t344⟩, A100, H⟩ := H
        replace H : ((haywainref10_Moves.f kj2 l0 l1).bind fun bt347 => ((haywainlaw10_same.f kj2 t343 bt347.1).bind fun t351 => (if t351 = true then (if t344 = bt347.2 then ((plan_Right.f kj2 l0).bind fun t352 => ((haywainref10_Right.f kj2 l0).bind fun t353 => (if (t352 == t353) = true then ((haywainlaw10_knows.f kj2).bind fun t354 => (some t354)) else (none)))) else (none)) else (none)))) = some r := H
        have A10 := Aside0.mk A100
        clear A100
        replace H := Option.bind_eq_some_iff.mp H
        obtain ⟨⟨t347, t348⟩, A110, H⟩ := H
        replace H : ((haywainlaw10_same.f kj2 t343 t347).bind fun t351 => (if t351 = true then (if t344 = t348 then ((plan_Right.f kj2 l0).bind fun t352 => ((haywainref10_Right.f kj2 l0).bind fun t353 => (if (t352 == t353) = true then ((haywainlaw10_knows.f kj2).bind fun t354 => (some t354)) else (none)))) else (none)) else (none))) = some r := H
        have A11 := Aside0.mk A110
        clear A110
        replace H := Option.bind_eq_some_iff.mp H
        obtain ⟨t351, A120, H⟩ := H
        replace H : (if t351 = true then (if t344 = t348 then ((plan_Right.f kj2 l0).bind fun t352 => ((haywainref10_Right.f kj2 l0).bind fun t353 => (if (t352 == t353) = true then ((haywainlaw10_knows.f kj2).bind fun t354 => (some t354)) else (none)))) else (none)) else (none)) = some r := H
        have A12 := Aside0.mk A120
        clear A120
        by_cases c13 : t351 = true
        · subst c13
          have H1 : (if t344 = t348 then ((plan_Right.f kj2 l0).bind fun t352 => ((haywainref10_Right.f kj2 l0).bind fun t353 => (if (t352 == t353) = true then ((haywainlaw10_knows.f kj2).bind fun t354 => (some t354)) else (none)))) else (none)) = some r := by rw [if_pos rfl] at H; exact H
          clear H
          have H := H1
          clear H1
          by_cases c14 : t344 = t348
          · rw [if_pos c14] at H
            have c14b0 : (t344 == t348) = true := beq_iff_eq.mpr c14
            have c14b1 : (t344 != t348) = false := bne_eq_false_iff_eq.mpr c14
            clear c14
            replace H := Option.bind_eq_some_iff.mp H
            obtain ⟨t352, A150, H⟩ := H
            replace H : ((haywainref10_Right.f kj2 l0).bind fun t353 => (if (t352 == t353) = true then ((haywainlaw10_knows.f kj2).bind fun t354 => (some t354)) else (none))) = some r := H
            have A15 := Aside0.mk A150
            clear A150
            replace H := Option.bind_eq_some_iff.mp H
            obtain ⟨t353, A160, H⟩ := H
            replace H : (if (t352 == t353) = true then ((haywainlaw10_knows.f kj2).bind fun t354 => (some t354)) else (none)) = some r := H
            have A16 := Aside0.mk A160
            clear A160
            by_cases c17 : (t352 == t353) = true
            · rw [if_pos c17] at H
              have c17b0 : (t352 == t353) = true := c17
              (try (have c17b1 : decide (t352 = t353) = true := by simpa using c17))
              (try (have c17b2 : (t352 == t353) = true := by simpa using c17))
              clear c17
              replace H := Option.bind_eq_some_iff.mp H
              obtain ⟨t354, A180, H⟩ := H
              replace H : (some t354) = some r := H
              have A18 := Aside0.mk A180
              clear A180
              obtain rfl := Option.some.inj H
              go_wp2_with (first | ((with_reducible refine gate_callee (f := 12) rfl ?_); refine goesL_ (some 19) rfl rfl Try.func12 (by kernel_rfl) rfl #[.slice A0 l0.length c0, .slice A1 l1.length c1] rfl (by (try simp only [List.map_toArray, List.map_cons, List.map_nil]); first | done | rfl | (simp only [List.length_drop, List.length_take]; rfl)) ?_; (with_reducible refine (plan_Moves.calls kj2 _ _ l0 _ _ l1 t343 t344 _ ?side1 ?side2 ?side3 ?side4 A10.out).mono ?_); (case side1 => repeat (first | exact (Kd.C_below HR0.out HB.out) | (with_reducible refine Kd.C_alloc ?_ _) | (with_reducible refine Kd.C_drewN ?_ _) | (with_reducible refine Kd.C_drew ?_))); (case side2 => exact HC0.out); (case side3 => repeat (first | exact (Kd.C_below HR1.out HB.out) | (with_reducible refine Kd.C_alloc ?_ _) | (with_reducible refine Kd.C_drewN ?_ _) | (with_reducible refine Kd.C_drew ?_))); (case side4 => exact HC1.out); rintro e w19 ⟨v345, rfl, ho0, hb⟩; refine ⟨_, rfl, ?_⟩; have n0_ := Aside0.mk (Kd.R_lower ho0 (below_size (by repeat (first | (with_reducible first | exact HB.out | apply below_alloc | apply pw_below_drewN | apply below_drew1) | exact HB.out)))); have n1_ := Aside0.mk (below_step (by repeat (first | (with_reducible first | exact HB.out | apply below_alloc | apply pw_below_drewN | apply below_drew1) | exact HB.out)) hb); clear HB; have HO346 := n0_; have HB := n1_; clear n0_ n1_; (try clear hb); (try clear hb2); (try clear hk); (try clear hi); (try clear ho0)) | ((with_reducible refine gate_callee (f := 13) rfl ?_); refine goesL_ (some 25) rfl rfl Try.func13 (by kernel_rfl) rfl #[.slice A0 l0.length c0, .slice A1 l1.length c1] rfl (by (try simp only [List.map_toArray, List.map_cons, List.map_nil]); first | done | rfl | (simp only [List.length_drop, List.length_take]; rfl)) ?_; (with_reducible refine (haywainref10_Moves.calls kj2 _ _ l0 _ _ l1 t347 t348 _ ?side1 ?side2 ?side3 ?side4 A11.out).mono ?_); (case side1 => repeat (first | exact (Kd.C_below HR0.out HB.out) | (with_reducible refine Kd.C_alloc ?_ _) | (with_reducible refine Kd.C_drewN ?_ _) | (with_reducible refine Kd.C_drew ?_))); (case side2 => exact HC0.out); (case side3 => repeat (first | exact (Kd.C_below HR1.out HB.out) | (with_reducible refine Kd.C_alloc ?_ _) | (with_reducible refine Kd.C_drewN ?_ _) | (with_reducible refine Kd.C_drew ?_))); (case side4 => exact HC1.out); rintro e w20 ⟨v349, rfl, ho0, hb⟩; refine ⟨_, rfl, ?_⟩; have n0_ := Aside0.mk (Kd.R_below (by (with_reducible repeat (first | apply Kd.R_alloc | apply Kd.R_drewN | apply Kd.R_drew)); exact HO346.out) hb); have n1_ := Aside0.mk (Kd.R_lower ho0 (below_size (by repeat (first | (with_reducible first | exact HB.out | apply below_alloc | apply pw_below_drewN | apply below_drew1) | exact HB.out)))); have n2_ := Aside0.mk (below_step (by repeat (first | (with_reducible first | exact HB.out | apply below_alloc | apply pw_below_drewN | apply below_drew1) | exact HB.out)) hb); clear HO346; clear HB; have HO346 := n0_; have HO350 := n1_; have HB := n2_; clear n0_ n1_ n2_; (try clear hb); (try clear hb2); (try clear hk); (try clear hi); (try clear ho0); obtain ⟨Ao21, co21, eo21⟩ := Kd.R_slice HO346.out; subst eo21; obtain ⟨Ao22, co22, eo22⟩ := Kd.R_slice HO350.out; subst eo22) | ((with_reducible refine gate_callee (f := 14) rfl ?_); refine goesL_ (some 30) rfl rfl Try.func14 (by kernel_rfl) rfl #[.slice Ao21 t343.length co21, .slice Ao22 t347.length co22] rfl (by (try simp only [List.map_toArray, List.map_cons, List.map_nil]); first | done | rfl | (simp only [List.length_drop, List.length_take]; rfl)) ?_; (with_reducible refine (haywainlaw10_same.calls kj2 _ _ t343 _ _ t347 true _ ?side1 ?side2 ?side3 ?side4 A12.out).mono ?_); (case side1 => repeat (first | exact (Kd.R_reads' HO346.out).2.2 | (with_reducible refine Kd.C_alloc ?_ _) | (with_reducible refine Kd.C_drewN ?_ _) | (with_reducible refine Kd.C_drew ?_))); (case side2 => exact (Kd.R_reads' HO346.out).2.1); (case side3 => repeat (first | exact (Kd.R_reads' HO350.out).2.2 | (with_reducible refine Kd.C_alloc ?_ _) | (with_reducible refine Kd.C_drewN ?_ _) | (with_reducible refine Kd.C_drew ?_))); (case side4 => exact (Kd.R_reads' HO350.out).2.1); rintro e w' ⟨rfl, ⟨nd, rfl⟩⟩; refine ⟨_, rfl, ?_⟩) | (go_at_call 15; (with_reducible refine (plan_Right.calls kj2 _ _ l0 t352 _ ?side1 ?side2 A15.out).mono ?_); (case side1 => repeat (first | exact (Kd.C_below HR0.out (by repeat (first | (with_reducible first | exact HB.out | apply below_alloc | apply pw_below_drewN | apply below_drew1) | exact HB.out))) | (with_reducible refine Kd.C_alloc ?_ _) | (with_reducible refine Kd.C_drewN ?_ _) | (with_reducible refine Kd.C_drew ?_))); (case side2 => exact HC0.out); rintro e w' ⟨rfl, ⟨nd, rfl⟩⟩) | (go_at_call 16; (with_reducible refine (haywainref10_Right.calls kj2 _ _ l0 t353 _ ?side1 ?side2 A16.out).mono ?_); (case side1 => repeat (first | exact (Kd.C_below HR0.out (by repeat (first | (with_reducible first | exact HB.out | apply below_alloc | apply pw_below_drewN | apply below_drew1) | exact HB.out))) | (with_reducible refine Kd.C_alloc ?_ _) | (with_reducible refine Kd.C_drewN ?_ _) | (with_reducible refine Kd.C_drew ?_))); (case side2 => exact HC0.out); rintro e w' ⟨rfl, ⟨nd, rfl⟩⟩) | (go_at_call 11; (with_reducible refine (haywainlaw10_knows.calls kj2  t354 _ A18.out).mono ?_); rintro e w23 ⟨rfl, hb⟩; have n0_ := Aside0.mk (Kd.R_below (by (with_reducible repeat (first | apply Kd.R_alloc | apply Kd.R_drewN | apply Kd.R_drew)); exact HO346.out) hb); have n1_ := Aside0.mk (Kd.R_below (by (with_reducible repeat (first | apply Kd.R_alloc | apply Kd.R_drewN | apply Kd.R_drew)); exact HO350.out) hb); have n2_ := Aside0.mk (below_step (by repeat (first | (with_reducible first | exact HB.out | apply below_alloc | apply pw_below_drewN | apply below_drew1) | exact HB.out)) hb); clear HO346; clear HO350; clear HB; have HO346 := n0_; have HO350 := n1_; have HB := n2_; clear n0_ n1_ n2_; (try clear hb); (try clear hb2); (try clear hk); (try clear hi)))
              go_ret
              exact ⟨by first | rfl | (simp [errW_none, errW_some] <;> rfl) | (simp [*, errW_none, errW_some] <;> rfl), by repeat (first | (with_reducible first | exact HB.out | apply below_alloc | apply pw_below_drewN | apply below_drew1) | exact HB.out)⟩
            · rw [if_neg c17] at H
              exact absurd H (by simp)
          · rw [if_neg c14] at H
            exact absurd H (by simp)
        · replace c13 := Bool.eq_false_iff.mpr c13
          subst c13
          have H1 : (none) = some r := by rw [if_neg (show ¬ (false = true) by decide)] at H; exact H
          clear H
          have H := H1
          clear H1
          exact absurd H (by simp)

/-- THE ONE PURE STATEMENT of haywainlaw10_PlanMoves: yours. -/
def haywainlaw10_PlanMoves.Pure : Prop := ∀ (l0 : List Int) (l1 : List Int), l0.length ≤ maxLen → l0.length * 8 ≤ 140737488351232 → (∀ x ∈ l0, (Lit.int .i64 x).wf = true) → l1.length ≤ maxLen → l1.length * 8 ≤ 140737488351232 → (∀ x ∈ l1, (Lit.int .i64 x).wf = true) → ∃ k, haywainlaw10_PlanMoves.f k l0 l1 = some true
theorem haywainlaw10_PlanMoves.walk (P : haywainlaw10_PlanMoves.Pure) (a0 : Option Addr) (len0 cap0 : Nat) (z0 : List Int) (a1 : Option Addr) (len1 cap1 : Nat) (z1 : List Int) (w : World) (w0 : (a0 = none ∧ len0 = 0 ∧ cap0 = 0 ∧ z0 = []) ∨ ∃ x, a0 = some x ∧ len0 ≤ cap0 ∧ cap0 ≤ maxLen ∧ z0.length = cap0 ∧ (∀ i, i < z0.length → w.cell? (x.add i) = some (.int .i64 (z0.getD i 0))) ∧ ∀ n ∈ z0, (Lit.int .i64 n).wf = true) (y0 : len0 * 8 ≤ 140737488351232) (w1 : (a1 = none ∧ len1 = 0 ∧ cap1 = 0 ∧ z1 = []) ∨ ∃ x, a1 = some x ∧ len1 ≤ cap1 ∧ cap1 ≤ maxLen ∧ z1.length = cap1 ∧ (∀ i, i < z1.length → w.cell? (x.add i) = some (.int .i64 (z1.getD i 0))) ∧ ∀ n ∈ z1, (Lit.int .i64 n).wf = true) (y1 : len1 * 8 ≤ 140737488351232) :
    Calls Try.prog 3 #[.slice a0 len0 cap0, .slice a1 len1 cap1] w fun e w' => e = .returned (.bool true) ∧ Below w.heap.size w w' := by
  obtain ⟨l0, rfl, hr0, hm0, hw0, hc0⟩ := ReadsInt.ofRowC w0
  obtain ⟨l1, rfl, hr1, hm1, hw1, hc1⟩ := ReadsInt.ofRowC w1
  obtain ⟨k, h⟩ := P l0 l1 hm0 y0 hw0 hm1 y1 hw1
  refine (haywainlaw10_PlanMoves.calls k _ _ l0 _ _ l1 true w (Kd.C_of_reads (d := (0 : Int)) (h1 := fun _ => rfl) hr0) hc0 (Kd.C_of_reads (d := (0 : Int)) (h1 := fun _ => rfl) hr1) hc1 h).mono ?_
  rintro e w' ⟨rfl, hd⟩
  exact ⟨rfl, hd⟩

end Go.Proofs.Ytjlmlmacgopliaa.PPlan
