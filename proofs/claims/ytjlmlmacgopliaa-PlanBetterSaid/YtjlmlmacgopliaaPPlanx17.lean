-- Printed for this claim by a turned copy of the print (wip/tools/patch.py); a text of this session, not of print.sh.
import Derived.Test.YtjlmlmacgopliaaPPlanx0
import Derived.Test.YtjlmlmacgopliaaPPlanx2
import Derived.Test.YtjlmlmacgopliaaPPlanx4
import Derived.Test.YtjlmlmacgopliaaPPlanx5
import Derived.Test.YtjlmlmacgopliaaPPlanx6
import Derived.Test.YtjlmlmacgopliaaPPlanx11
namespace Go.Proofs.Ytjlmlmacgopliaa.PPlan
open Go.RowKit Go.Proofs.YtjlmlmacgopliaaW.PrintWords Go.Proofs.YtjlmlmacgopliaaW.PrintLast Go.Proofs.YtjlmlmacgopliaaW.PrintMore
attribute [local go_sem] max2_int min2_int max_two min_two max_three min_three max_four min_four   -- for this text's walks alone
set_option linter.unusedVariables false
set_option linter.unusedSimpArgs false

/-! ### haywainlaw10_PlanBetter: function 8 -/
mutual
def haywainlaw10_PlanBetter.j0 : Nat → List Int → List Int → List Int → List Int → Bool → Option (Bool)
 | 0, _, _, _, _, _ => none
 | k + 1, x0, x1, x2, x3, x28 => if x28 = true then ((haywainlaw10_knows.f k).bind fun t429 => (some t429)) else ((plan_Loads.f k x0 x1 x2 x3).bind fun bt430 => ((plan_Even.f k x0 x1 x2 x3).bind fun bt434 => (if bt430.2 = 0 then (haywainlaw10_PlanBetter.j1 k x0 x1 x2 x3 bt430.1 bt430.2 bt434.1 bt434.2 (bt434.2 != 0)) else (haywainlaw10_PlanBetter.j1 k x0 x1 x2 x3 bt430.1 bt430.2 bt434.1 bt434.2 true))))
def haywainlaw10_PlanBetter.j1 : Nat → List Int → List Int → List Int → List Int → List Int → Int → List Int → Int → Bool → Option (Bool)
 | 0, _, _, _, _, _, _, _, _, _ => none
 | k + 1, x0, x1, x2, x3, x9, x10, x11, x12, x51 => if x51 = true then (if x10 = x12 then (if (x11.length : Int) = 0 then ((haywainlaw10_knows.f k).bind fun t438 => (some t438)) else (none)) else (none)) else ((plan_Loads.f k x11 x1 x2 x3).bind fun bt439 => (if bt439.2 = 0 then (if (x11.length : Int) = (x0.length : Int) then ((haywainlaw10_most.f k bt439.1).bind fun t443 => ((haywainlaw10_most.f k x9).bind fun t444 => (if t443 ≤ t444 then ((haywainlaw10_knows.f k).bind fun t445 => (some t445)) else (none)))) else (none)) else (none)))
end
def haywainlaw10_PlanBetter.f (k : Nat) (l0 : List Int) (l1 : List Int) (l2 : List Int) (l3 : List Int) : Option (Bool) := (haywainlaw10_great.f l0).bind fun t425 => (if t425 = true then (haywainlaw10_PlanBetter.j0 k l0 l1 l2 l3 true) else ((haywainlaw10_great.f l1).bind fun t426 => (if t426 = true then (haywainlaw10_PlanBetter.j0 k l0 l1 l2 l3 true) else ((haywainlaw10_great.f l2).bind fun t427 => (if t427 = true then (haywainlaw10_PlanBetter.j0 k l0 l1 l2 l3 true) else ((haywainlaw10_great.f l3).bind fun t428 => (haywainlaw10_PlanBetter.j0 k l0 l1 l2 l3 t428)))))))
theorem haywainlaw10_PlanBetter.mono_l : ∀ k, (∀ y0 y1 y2 y3 y4, LeO (haywainlaw10_PlanBetter.j0 k y0 y1 y2 y3 y4) (haywainlaw10_PlanBetter.j0 (k + 1) y0 y1 y2 y3 y4)) ∧ (∀ y0 y1 y2 y3 y4 y5 y6 y7 y8, LeO (haywainlaw10_PlanBetter.j1 k y0 y1 y2 y3 y4 y5 y6 y7 y8) (haywainlaw10_PlanBetter.j1 (k + 1) y0 y1 y2 y3 y4 y5 y6 y7 y8))
 | 0 => ⟨fun _ _ _ _ _ r h => by simp [haywainlaw10_PlanBetter.j0] at h, fun _ _ _ _ _ _ _ _ _ r h => by simp [haywainlaw10_PlanBetter.j1] at h⟩
 | k + 1 => by
  obtain ⟨ih0, ih1⟩ := haywainlaw10_PlanBetter.mono_l k
  refine ⟨?_, ?_⟩
  ·intro y0 y1 y2 y3 y4
   unfold haywainlaw10_PlanBetter.j0
   repeat' first
   | (with_reducible exact ih0 _ _ _ _ _)
   | (with_reducible exact ih1 _ _ _ _ _ _ _ _ _)
   | (with_reducible exact haywainlaw10_knows.mono _)
   | (with_reducible exact haywainlaw10_most.mono _ _)
   | (with_reducible exact plan_Even.mono _ _ _ _ _)
   | (with_reducible exact plan_Loads.mono _ _ _ _ _)
   | (with_reducible exact LeO.refl _)
   | (with_reducible exact LeO.none _)
   | (with_reducible refine LeO.ite ?_ ?_)
   | (with_reducible refine LeO.bind ?_ (fun _ => ?_))
   | exact ih0 _ _ _ _ _
   | exact ih1 _ _ _ _ _ _ _ _ _
   | exact haywainlaw10_knows.mono _
   | exact haywainlaw10_most.mono _ _
   | exact plan_Even.mono _ _ _ _ _
   | exact plan_Loads.mono _ _ _ _ _
   | exact LeO.none _
   | refine LeO.ite ?_ ?_
   | refine LeO.bind ?_ (fun _ => ?_)
  ·intro y0 y1 y2 y3 y4 y5 y6 y7 y8
   unfold haywainlaw10_PlanBetter.j1
   repeat' first
   | (with_reducible exact ih0 _ _ _ _ _)
   | (with_reducible exact ih1 _ _ _ _ _ _ _ _ _)
   | (with_reducible exact haywainlaw10_knows.mono _)
   | (with_reducible exact haywainlaw10_most.mono _ _)
   | (with_reducible exact plan_Even.mono _ _ _ _ _)
   | (with_reducible exact plan_Loads.mono _ _ _ _ _)
   | (with_reducible exact LeO.refl _)
   | (with_reducible exact LeO.none _)
   | (with_reducible refine LeO.ite ?_ ?_)
   | (with_reducible refine LeO.bind ?_ (fun _ => ?_))
   | exact ih0 _ _ _ _ _
   | exact ih1 _ _ _ _ _ _ _ _ _
   | exact haywainlaw10_knows.mono _
   | exact haywainlaw10_most.mono _ _
   | exact plan_Even.mono _ _ _ _ _
   | exact plan_Loads.mono _ _ _ _ _
   | exact LeO.none _
   | refine LeO.ite ?_ ?_
   | refine LeO.bind ?_ (fun _ => ?_)
theorem haywainlaw10_PlanBetter.mono : ∀ a0 a1 a2 a3 k, LeO (haywainlaw10_PlanBetter.f k a0 a1 a2 a3) (haywainlaw10_PlanBetter.f (k + 1) a0 a1 a2 a3) := by
 intro a0 a1 a2 a3 k
 obtain ⟨ih0, ih1⟩ := haywainlaw10_PlanBetter.mono_l k
 unfold haywainlaw10_PlanBetter.f
 repeat' first
   | (with_reducible exact ih0 _ _ _ _ _)
   | (with_reducible exact ih1 _ _ _ _ _ _ _ _ _)
   | (with_reducible exact haywainlaw10_knows.mono _)
   | (with_reducible exact haywainlaw10_most.mono _ _)
   | (with_reducible exact plan_Even.mono _ _ _ _ _)
   | (with_reducible exact plan_Loads.mono _ _ _ _ _)
   | (with_reducible exact LeO.refl _)
   | (with_reducible exact LeO.none _)
   | (with_reducible refine LeO.ite ?_ ?_)
   | (with_reducible refine LeO.bind ?_ (fun _ => ?_))
   | exact ih0 _ _ _ _ _
   | exact ih1 _ _ _ _ _ _ _ _ _
   | exact haywainlaw10_knows.mono _
   | exact haywainlaw10_most.mono _ _
   | exact plan_Even.mono _ _ _ _ _
   | exact plan_Loads.mono _ _ _ _ _
   | exact LeO.none _
   | refine LeO.ite ?_ ?_
   | refine LeO.bind ?_ (fun _ => ?_)
set_option maxHeartbeats 8000000 in
set_option maxRecDepth 100000 in
theorem haywainlaw10_PlanBetter.calls (k : Nat) (A0 : Option Addr) (c0 : Nat) (l0 : List Int) (A1 : Option Addr) (c1 : Nat) (l1 : List Int) (A2 : Option Addr) (c2 : Nat) (l2 : List Int) (A3 : Option Addr) (c3 : Nat) (l3 : List Int) (r : Bool) (w : World) (hr0 : Kd.C (Kd.int .i64) w A0 l0.length l0) (hc0 : l0.length ≤ c0) (hr1 : Kd.C (Kd.int .i64) w A1 l1.length l1) (hc1 : l1.length ≤ c1) (hr2 : Kd.C (Kd.int .i64) w A2 l2.length l2) (hc2 : l2.length ≤ c2) (hr3 : Kd.C (Kd.int .i64) w A3 l3.length l3) (hc3 : l3.length ≤ c3) (h : haywainlaw10_PlanBetter.f k l0 l1 l2 l3 = some r) :
  Calls Try.prog 8 #[.slice A0 l0.length c0, .slice A1 l1.length c1, .slice A2 l2.length c2, .slice A3 l3.length c3] w fun e w' => e = .returned (.bool r) ∧ Below w.heap.size w w' := by
 have HR0 := Aside0.mk hr0
 have HC0 := Aside0.mk hc0
 clear hr0 hc0
 have HR1 := Aside0.mk hr1
 have HC1 := Aside0.mk hc1
 clear hr1 hc1
 have HR2 := Aside0.mk hr2
 have HC2 := Aside0.mk hc2
 clear hr2 hc2
 have HR3 := Aside0.mk hr3
 have HC3 := Aside0.mk hc3
 clear hr3 hc3
 have HB := Aside0.mk (Below.refl w.heap.size w)
 have H : ((haywainlaw10_great.f l0).bind fun t425 => (if t425 = true then (haywainlaw10_PlanBetter.j0 k l0 l1 l2 l3 true) else ((haywainlaw10_great.f l1).bind fun t426 => (if t426 = true then (haywainlaw10_PlanBetter.j0 k l0 l1 l2 l3 true) else ((haywainlaw10_great.f l2).bind fun t427 => (if t427 = true then (haywainlaw10_PlanBetter.j0 k l0 l1 l2 l3 true) else ((haywainlaw10_great.f l3).bind fun t428 => (haywainlaw10_PlanBetter.j0 k l0 l1 l2 l3 t428)))))))) = some r := h
 clear h
 have HC5 := Aside0.mk H
 clear H
 go_enter Try.func8, Try.ntmps8
 go_upto_region 1 with (fail)
 go_cut [28] (fun v28 wc => ∃ (kq : Nat) (x28_4 : Bool), v28 = .bool x28_4 ∧ Aside0 (haywainlaw10_PlanBetter.j0 kq l0 l1 l2 l3 x28_4 = some r) ∧ Aside0 (kq ≤ k) ∧ Aside0 (Below w.heap.size w wc))
 case first =>
  have H := HC5.out
  clear HC5
  replace H := Option.bind_eq_some_iff.mp H
  obtain ⟨t425, A60, H⟩ := H
  replace H : (if t425 = true then (haywainlaw10_PlanBetter.j0 k l0 l1 l2 l3 true) else ((haywainlaw10_great.f l1).bind fun t426 => (if t426 = true then (haywainlaw10_PlanBetter.j0 k l0 l1 l2 l3 true) else ((haywainlaw10_great.f l2).bind fun t427 => (if t427 = true then (haywainlaw10_PlanBetter.j0 k l0 l1 l2 l3 true) else ((haywainlaw10_great.f l3).bind fun t428 => (haywainlaw10_PlanBetter.j0 k l0 l1 l2 l3 t428))))))) = some r := H
  have A6 := Aside0.mk A60
  clear A60
  by_cases c7 : t425 = true
  ·subst c7
   have H1 : (haywainlaw10_PlanBetter.j0 k l0 l1 l2 l3 true) = some r := by rw [if_pos rfl] at H; exact H
   clear H
   have H := H1
   clear H1
   have H' := Aside0.mk H
   clear H
   go_wp2_with (first | ((with_reducible refine gate_callee (f := 10) rfl ?_); refine goesL_ (some 16) rfl rfl Try.func10 (by kernel_rfl) rfl #[.slice A0 l0.length c0] rfl (by (try simp only [List.map_toArray, List.map_cons, List.map_nil]); first | done | rfl | (simp only [List.length_drop, List.length_take]; rfl)) ?_; (with_reducible refine (haywainlaw10_great.calls _ _ l0 true _ ?side1 ?side2 A6.out).mono ?_); (case side1 => repeat (first | exact (Kd.C_below HR0.out HB.out) | (with_reducible refine Kd.C_alloc ?_ _) | (with_reducible refine Kd.C_drewN ?_ _) | (with_reducible refine Kd.C_drew ?_))); (case side2 => exact HC0.out); rintro e w' ⟨rfl, ⟨nd, rfl⟩⟩; refine ⟨_, rfl, ?_⟩))
   go_meet
   case rel => exact ⟨_, (true), (by first | rfl | (simp; done) | (simp [*]; done)), H', ⟨by first | omega | exact Nat.le_refl _⟩, ⟨by repeat (first | (with_reducible first | exact HB.out | apply below_alloc | apply pw_below_drewN | apply below_drew1) | exact HB.out)⟩⟩
  ·replace c7 := Bool.eq_false_iff.mpr c7
   subst c7
   have H1 : ((haywainlaw10_great.f l1).bind fun t426 => (if t426 = true then (haywainlaw10_PlanBetter.j0 k l0 l1 l2 l3 true) else ((haywainlaw10_great.f l2).bind fun t427 => (if t427 = true then (haywainlaw10_PlanBetter.j0 k l0 l1 l2 l3 true) else ((haywainlaw10_great.f l3).bind fun t428 => (haywainlaw10_PlanBetter.j0 k l0 l1 l2 l3 t428)))))) = some r := by rw [if_neg (show ¬ (false = true) by decide)] at H; exact H
   clear H
   have H := H1
   clear H1
   replace H := Option.bind_eq_some_iff.mp H
   obtain ⟨t426, A80, H⟩ := H
   replace H : (if t426 = true then (haywainlaw10_PlanBetter.j0 k l0 l1 l2 l3 true) else ((haywainlaw10_great.f l2).bind fun t427 => (if t427 = true then (haywainlaw10_PlanBetter.j0 k l0 l1 l2 l3 true) else ((haywainlaw10_great.f l3).bind fun t428 => (haywainlaw10_PlanBetter.j0 k l0 l1 l2 l3 t428))))) = some r := H
   have A8 := Aside0.mk A80
   clear A80
   by_cases c9 : t426 = true
   ·subst c9
    have H1 : (haywainlaw10_PlanBetter.j0 k l0 l1 l2 l3 true) = some r := by rw [if_pos rfl] at H; exact H
    clear H
    have H := H1
    clear H1
    have H' := Aside0.mk H
    clear H
    go_wp2_with (first | ((with_reducible refine gate_callee (f := 10) rfl ?_); refine goesL_ (some 16) rfl rfl Try.func10 (by kernel_rfl) rfl #[.slice A0 l0.length c0] rfl (by (try simp only [List.map_toArray, List.map_cons, List.map_nil]); first | done | rfl | (simp only [List.length_drop, List.length_take]; rfl)) ?_; (with_reducible refine (haywainlaw10_great.calls _ _ l0 false _ ?side1 ?side2 A6.out).mono ?_); (case side1 => repeat (first | exact (Kd.C_below HR0.out HB.out) | (with_reducible refine Kd.C_alloc ?_ _) | (with_reducible refine Kd.C_drewN ?_ _) | (with_reducible refine Kd.C_drew ?_))); (case side2 => exact HC0.out); rintro e w' ⟨rfl, ⟨nd, rfl⟩⟩; refine ⟨_, rfl, ?_⟩) | (go_at_call 10; (with_reducible refine (haywainlaw10_great.calls _ _ l1 true _ ?side1 ?side2 A8.out).mono ?_); (case side1 => repeat (first | exact (Kd.C_below HR1.out (by repeat (first | (with_reducible first | exact HB.out | apply below_alloc | apply pw_below_drewN | apply below_drew1) | exact HB.out))) | (with_reducible refine Kd.C_alloc ?_ _) | (with_reducible refine Kd.C_drewN ?_ _) | (with_reducible refine Kd.C_drew ?_))); (case side2 => exact HC1.out); rintro e w' ⟨rfl, ⟨nd, rfl⟩⟩))
    go_meet
    case rel => exact ⟨_, (true), (by first | rfl | (simp; done) | (simp [*]; done)), H', ⟨by first | omega | exact Nat.le_refl _⟩, ⟨by repeat (first | (with_reducible first | exact HB.out | apply below_alloc | apply pw_below_drewN | apply below_drew1) | exact HB.out)⟩⟩
   ·replace c9 := Bool.eq_false_iff.mpr c9
    subst c9
    have H1 : ((haywainlaw10_great.f l2).bind fun t427 => (if t427 = true then (haywainlaw10_PlanBetter.j0 k l0 l1 l2 l3 true) else ((haywainlaw10_great.f l3).bind fun t428 => (haywainlaw10_PlanBetter.j0 k l0 l1 l2 l3 t428)))) = some r := by rw [if_neg (show ¬ (false = true) by decide)] at H; exact H
    clear H
    have H := H1
    clear H1
    replace H := Option.bind_eq_some_iff.mp H
    obtain ⟨t427, A100, H⟩ := H
    replace H : (if t427 = true then (haywainlaw10_PlanBetter.j0 k l0 l1 l2 l3 true) else ((haywainlaw10_great.f l3).bind fun t428 => (haywainlaw10_PlanBetter.j0 k l0 l1 l2 l3 t428))) = some r := H
    have A10 := Aside0.mk A100
    clear A100
    by_cases c11 : t427 = true
    ·subst c11
     have H1 : (haywainlaw10_PlanBetter.j0 k l0 l1 l2 l3 true) = some r := by rw [if_pos rfl] at H; exact H
     clear H
     have H := H1
     clear H1
     have H' := Aside0.mk H
     clear H
     go_wp2_with (first | ((with_reducible refine gate_callee (f := 10) rfl ?_); refine goesL_ (some 16) rfl rfl Try.func10 (by kernel_rfl) rfl #[.slice A0 l0.length c0] rfl (by (try simp only [List.map_toArray, List.map_cons, List.map_nil]); first | done | rfl | (simp only [List.length_drop, List.length_take]; rfl)) ?_; (with_reducible refine (haywainlaw10_great.calls _ _ l0 false _ ?side1 ?side2 A6.out).mono ?_); (case side1 => repeat (first | exact (Kd.C_below HR0.out HB.out) | (with_reducible refine Kd.C_alloc ?_ _) | (with_reducible refine Kd.C_drewN ?_ _) | (with_reducible refine Kd.C_drew ?_))); (case side2 => exact HC0.out); rintro e w' ⟨rfl, ⟨nd, rfl⟩⟩; refine ⟨_, rfl, ?_⟩) | (go_at_call 10; (with_reducible refine (haywainlaw10_great.calls _ _ l1 false _ ?side1 ?side2 A8.out).mono ?_); (case side1 => repeat (first | exact (Kd.C_below HR1.out (by repeat (first | (with_reducible first | exact HB.out | apply below_alloc | apply pw_below_drewN | apply below_drew1) | exact HB.out))) | (with_reducible refine Kd.C_alloc ?_ _) | (with_reducible refine Kd.C_drewN ?_ _) | (with_reducible refine Kd.C_drew ?_))); (case side2 => exact HC1.out); rintro e w' ⟨rfl, ⟨nd, rfl⟩⟩) | (go_at_call 10; (with_reducible refine (haywainlaw10_great.calls _ _ l2 true _ ?side1 ?side2 A10.out).mono ?_); (case side1 => repeat (first | exact (Kd.C_below HR2.out (by repeat (first | (with_reducible first | exact HB.out | apply below_alloc | apply pw_below_drewN | apply below_drew1) | exact HB.out))) | (with_reducible refine Kd.C_alloc ?_ _) | (with_reducible refine Kd.C_drewN ?_ _) | (with_reducible refine Kd.C_drew ?_))); (case side2 => exact HC2.out); rintro e w' ⟨rfl, ⟨nd, rfl⟩⟩))
     go_meet
     case rel => exact ⟨_, (true), (by first | rfl | (simp; done) | (simp [*]; done)), H', ⟨by first | omega | exact Nat.le_refl _⟩, ⟨by repeat (first | (with_reducible first | exact HB.out | apply below_alloc | apply pw_below_drewN | apply below_drew1) | exact HB.out)⟩⟩
    ·replace c11 := Bool.eq_false_iff.mpr c11
     subst c11
     have H1 : ((haywainlaw10_great.f l3).bind fun t428 => (haywainlaw10_PlanBetter.j0 k l0 l1 l2 l3 t428)) = some r := by rw [if_neg (show ¬ (false = true) by decide)] at H; exact H
     clear H
     have H := H1
     clear H1
     replace H := Option.bind_eq_some_iff.mp H
     obtain ⟨t428, A120, H⟩ := H
     replace H : (haywainlaw10_PlanBetter.j0 k l0 l1 l2 l3 t428) = some r := H
     have A12 := Aside0.mk A120
     clear A120
     have H' := Aside0.mk H
     clear H
     go_wp2_with (first | ((with_reducible refine gate_callee (f := 10) rfl ?_); refine goesL_ (some 16) rfl rfl Try.func10 (by kernel_rfl) rfl #[.slice A0 l0.length c0] rfl (by (try simp only [List.map_toArray, List.map_cons, List.map_nil]); first | done | rfl | (simp only [List.length_drop, List.length_take]; rfl)) ?_; (with_reducible refine (haywainlaw10_great.calls _ _ l0 false _ ?side1 ?side2 A6.out).mono ?_); (case side1 => repeat (first | exact (Kd.C_below HR0.out HB.out) | (with_reducible refine Kd.C_alloc ?_ _) | (with_reducible refine Kd.C_drewN ?_ _) | (with_reducible refine Kd.C_drew ?_))); (case side2 => exact HC0.out); rintro e w' ⟨rfl, ⟨nd, rfl⟩⟩; refine ⟨_, rfl, ?_⟩) | (go_at_call 10; (with_reducible refine (haywainlaw10_great.calls _ _ l1 false _ ?side1 ?side2 A8.out).mono ?_); (case side1 => repeat (first | exact (Kd.C_below HR1.out (by repeat (first | (with_reducible first | exact HB.out | apply below_alloc | apply pw_below_drewN | apply below_drew1) | exact HB.out))) | (with_reducible refine Kd.C_alloc ?_ _) | (with_reducible refine Kd.C_drewN ?_ _) | (with_reducible refine Kd.C_drew ?_))); (case side2 => exact HC1.out); rintro e w' ⟨rfl, ⟨nd, rfl⟩⟩) | (go_at_call 10; (with_reducible refine (haywainlaw10_great.calls _ _ l2 false _ ?side1 ?side2 A10.out).mono ?_); (case side1 => repeat (first | exact (Kd.C_below HR2.out (by repeat (first | (with_reducible first | exact HB.out | apply below_alloc | apply pw_below_drewN | apply below_drew1) | exact HB.out))) | (with_reducible refine Kd.C_alloc ?_ _) | (with_reducible refine Kd.C_drewN ?_ _) | (with_reducible refine Kd.C_drew ?_))); (case side2 => exact HC2.out); rintro e w' ⟨rfl, ⟨nd, rfl⟩⟩) | (go_at_call 10; (with_reducible refine (haywainlaw10_great.calls _ _ l3 t428 _ ?side1 ?side2 A12.out).mono ?_); (case side1 => repeat (first | exact (Kd.C_below HR3.out (by repeat (first | (with_reducible first | exact HB.out | apply below_alloc | apply pw_below_drewN | apply below_drew1) | exact HB.out))) | (with_reducible refine Kd.C_alloc ?_ _) | (with_reducible refine Kd.C_drewN ?_ _) | (with_reducible refine Kd.C_drew ?_))); (case side2 => exact HC3.out); rintro e w' ⟨rfl, ⟨nd, rfl⟩⟩))
     go_meet
     case rel => exact ⟨_, (t428), (by first | rfl | (simp; done) | (simp [*]; done)), H', ⟨by first | omega | exact Nat.le_refl _⟩, ⟨by repeat (first | (with_reducible first | exact HB.out | apply below_alloc | apply pw_below_drewN | apply below_drew1) | exact HB.out)⟩⟩
 case rest =>
  clear HC5
  try clear c1
  try clear c2
  try clear p2
  try clear c3
  try clear c7
  try clear c8
  try clear c9
  try clear c10
  try clear c11
  obtain ⟨kq, x28_4, rfl, HA, HJ4, HB⟩ := hcut
  cases kq with
  | zero => exact absurd HA.out (by simp [haywainlaw10_PlanBetter.j0])
  | succ kj4 =>
   have H := HA.out
   clear HA
   simp only [haywainlaw10_PlanBetter.j0] at H
   by_cases c13 : x28_4 = true
   ·subst c13
    have H1 : ((haywainlaw10_knows.f kj4).bind fun t429 => (some t429)) = some r := by rw [if_pos rfl] at H; exact H
    clear H
    have H := H1
    clear H1
    replace H := Option.bind_eq_some_iff.mp H
    obtain ⟨t429, A140, H⟩ := H
    replace H : (some t429) = some r := H
    have A14 := Aside0.mk A140
    clear A140
    obtain rfl := Option.some.inj H
    go_wp2_with (first | ((with_reducible refine gate_callee (f := 11) rfl ?_); refine goesL_ (some 29) rfl rfl Try.func11 (by kernel_rfl) rfl #[] rfl (by (try simp only [List.map_toArray, List.map_cons, List.map_nil]); first | done | rfl | (simp only [List.length_drop, List.length_take]; rfl)) ?_; (with_reducible refine (haywainlaw10_knows.calls kj4  t429 _ A14.out).mono ?_); rintro e w15 ⟨rfl, hb⟩; refine ⟨_, rfl, ?_⟩; have n0_ := Aside0.mk (below_step (by repeat (first | (with_reducible first | exact HB.out | apply below_alloc | apply pw_below_drewN | apply below_drew1) | exact HB.out)) hb); clear HB; have HB := n0_; clear n0_; (try clear hb); (try clear hb2); (try clear hk); (try clear hi)))
    go_ret
    exact ⟨by first | rfl | (simp [errW_none, errW_some] <;> rfl) | (simp [*, errW_none, errW_some] <;> rfl), by repeat (first | (with_reducible first | exact HB.out | apply below_alloc | apply pw_below_drewN | apply below_drew1) | exact HB.out)⟩
   ·replace c13 := Bool.eq_false_iff.mpr c13
    subst c13
    have H1 : ((plan_Loads.f kj4 l0 l1 l2 l3).bind fun bt430 => ((plan_Even.f kj4 l0 l1 l2 l3).bind fun bt434 => (if bt430.2 = 0 then (haywainlaw10_PlanBetter.j1 kj4 l0 l1 l2 l3 bt430.1 bt430.2 bt434.1 bt434.2 (bt434.2 != 0)) else (haywainlaw10_PlanBetter.j1 kj4 l0 l1 l2 l3 bt430.1 bt430.2 bt434.1 bt434.2 true)))) = some r := by rw [if_neg (show ¬ (false = true) by decide)] at H; exact H
    clear H
    have H := H1
    clear H1
    replace H := Option.bind_eq_some_iff.mp H
    obtain ⟨⟨t430, t431⟩, A160, H⟩ := H
    replace H : ((plan_Even.f kj4 l0 l1 l2 l3).bind fun bt434 => (if t431 = 0 then (haywainlaw10_PlanBetter.j1 kj4 l0 l1 l2 l3 t430 t431 bt434.1 bt434.2 (bt434.2 != 0)) else (haywainlaw10_PlanBetter.j1 kj4 l0 l1 l2 l3 t430 t431 bt434.1 bt434.2 true))) = some r := H
    have A16 := Aside0.mk A160
    clear A160
    replace H := Option.bind_eq_some_iff.mp H
    obtain ⟨⟨t434, t435⟩, A170, H⟩ := H
    replace H : (if t431 = 0 then (haywainlaw10_PlanBetter.j1 kj4 l0 l1 l2 l3 t430 t431 t434 t435 (t435 != 0)) else (haywainlaw10_PlanBetter.j1 kj4 l0 l1 l2 l3 t430 t431 t434 t435 true)) = some r := H
    have A17 := Aside0.mk A170
    clear A170
    have HC18 := Aside0.mk H
    clear H
    go_upto_region 5 with (first | ((with_reducible refine gate_callee (f := 20) rfl ?_); refine goesL_ (some 35) rfl rfl Try.func20 (by kernel_rfl) rfl #[.slice A0 l0.length c0, .slice A1 l1.length c1, .slice A2 l2.length c2, .slice A3 l3.length c3] rfl (by (try simp only [List.map_toArray, List.map_cons, List.map_nil]); first | done | rfl | (simp only [List.length_drop, List.length_take]; rfl)) ?_; (with_reducible refine (plan_Loads.calls kj4 _ _ l0 _ _ l1 _ _ l2 _ _ l3 t430 t431 _ ?side1 ?side2 ?side3 ?side4 ?side5 ?side6 ?side7 ?side8 A16.out).mono ?_); (case side1 => repeat (first | exact (Kd.C_below HR0.out HB.out) | (with_reducible refine Kd.C_alloc ?_ _) | (with_reducible refine Kd.C_drewN ?_ _) | (with_reducible refine Kd.C_drew ?_))); (case side2 => exact HC0.out); (case side3 => repeat (first | exact (Kd.C_below HR1.out HB.out) | (with_reducible refine Kd.C_alloc ?_ _) | (with_reducible refine Kd.C_drewN ?_ _) | (with_reducible refine Kd.C_drew ?_))); (case side4 => exact HC1.out); (case side5 => repeat (first | exact (Kd.C_below HR2.out HB.out) | (with_reducible refine Kd.C_alloc ?_ _) | (with_reducible refine Kd.C_drewN ?_ _) | (with_reducible refine Kd.C_drew ?_))); (case side6 => exact HC2.out); (case side7 => repeat (first | exact (Kd.C_below HR3.out HB.out) | (with_reducible refine Kd.C_alloc ?_ _) | (with_reducible refine Kd.C_drewN ?_ _) | (with_reducible refine Kd.C_drew ?_))); (case side8 => exact HC3.out); rintro e w19 ⟨v432, rfl, ho0, hb⟩; refine ⟨_, rfl, ?_⟩; have n0_ := Aside0.mk (Kd.R_lower ho0 (below_size (by repeat (first | (with_reducible first | exact HB.out | apply below_alloc | apply pw_below_drewN | apply below_drew1) | exact HB.out)))); have n1_ := Aside0.mk (below_step (by repeat (first | (with_reducible first | exact HB.out | apply below_alloc | apply pw_below_drewN | apply below_drew1) | exact HB.out)) hb); clear HB; have HO433 := n0_; have HB := n1_; clear n0_ n1_; (try clear hb); (try clear hb2); (try clear hk); (try clear hi); (try clear ho0)) | ((with_reducible refine gate_callee (f := 22) rfl ?_); refine goesL_ (some 43) rfl rfl Try.func22 (by kernel_rfl) rfl #[.slice A0 l0.length c0, .slice A1 l1.length c1, .slice A2 l2.length c2, .slice A3 l3.length c3] rfl (by (try simp only [List.map_toArray, List.map_cons, List.map_nil]); first | done | rfl | (simp only [List.length_drop, List.length_take]; rfl)) ?_; (with_reducible refine (plan_Even.calls kj4 _ _ l0 _ _ l1 _ _ l2 _ _ l3 t434 t435 _ ?side1 ?side2 ?side3 ?side4 ?side5 ?side6 ?side7 ?side8 A17.out).mono ?_); (case side1 => repeat (first | exact (Kd.C_below HR0.out HB.out) | (with_reducible refine Kd.C_alloc ?_ _) | (with_reducible refine Kd.C_drewN ?_ _) | (with_reducible refine Kd.C_drew ?_))); (case side2 => exact HC0.out); (case side3 => repeat (first | exact (Kd.C_below HR1.out HB.out) | (with_reducible refine Kd.C_alloc ?_ _) | (with_reducible refine Kd.C_drewN ?_ _) | (with_reducible refine Kd.C_drew ?_))); (case side4 => exact HC1.out); (case side5 => repeat (first | exact (Kd.C_below HR2.out HB.out) | (with_reducible refine Kd.C_alloc ?_ _) | (with_reducible refine Kd.C_drewN ?_ _) | (with_reducible refine Kd.C_drew ?_))); (case side6 => exact HC2.out); (case side7 => repeat (first | exact (Kd.C_below HR3.out HB.out) | (with_reducible refine Kd.C_alloc ?_ _) | (with_reducible refine Kd.C_drewN ?_ _) | (with_reducible refine Kd.C_drew ?_))); (case side8 => exact HC3.out); rintro e w20 ⟨v436, rfl, ho0, hb⟩; refine ⟨_, rfl, ?_⟩; have n0_ := Aside0.mk (Kd.R_elder' (by (with_reducible repeat (first | apply Kd.R_alloc | apply Kd.R_drewN | apply Kd.R_drew)); exact HO433.out) (Kd.R_base ho0) hb); have n1_ := Aside0.mk (Kd.R_lower (Kd.R_new' ho0 (Kd.R_lt (by (with_reducible repeat (first | apply Kd.R_alloc | apply Kd.R_drewN | apply Kd.R_drew)); exact HO433.out))) (below_size (by repeat (first | (with_reducible first | exact HB.out | apply below_alloc | apply pw_below_drewN | apply below_drew1) | exact HB.out)))); have n2_ := Aside0.mk (below_step (by repeat (first | (with_reducible first | exact HB.out | apply below_alloc | apply pw_below_drewN | apply below_drew1) | exact HB.out)) hb); clear HO433; clear HB; have HO433 := n0_; have HO437 := n1_; have HB := n2_; clear n0_ n1_ n2_; (try clear hb); (try clear hb2); (try clear hk); (try clear hi); (try clear ho0)))
    (try simp only [Act.put, List.setIfInBounds_toArray, List.set_cons_zero, List.set_cons_succ])
    go_cut [51] (fun v51 wc => ∃ (kq : Nat) (x51_17 : Bool), v51 = .bool x51_17 ∧ Aside0 (haywainlaw10_PlanBetter.j1 kq l0 l1 l2 l3 t430 t431 t434 t435 x51_17 = some r) ∧ Aside0 (kq ≤ kj4) ∧ Aside0 (Kd.R (Kd.int .i64) 3 wc w.heap.size (fun k_ => some k_ ≠ (v436 : Value).ownBlock) v432 t430) ∧ Aside0 (Kd.R (Kd.int .i64) 3 wc w.heap.size (fun k_ => some k_ ≠ (v432 : Value).ownBlock) v436 t434) ∧ Aside0 (Below w.heap.size w wc))
    case first =>
     have H := HC18.out
     clear HC18
     by_cases c21 : t431 = 0
     ·rw [if_pos c21] at H
      have c21b0 : (t431 == 0) = true := beq_iff_eq.mpr c21
      have c21b1 : (t431 != 0) = false := bne_eq_false_iff_eq.mpr c21
      clear c21
      (first | rw [c21b0] | (simp only [i64_w, i32_w]; rw [c21b0]) | skip)
      have H' := Aside0.mk H
      clear H
      go_wp2
      go_meet
      case rel => exact ⟨_, ((t435 != 0)), (by first | rfl | (simp; done) | (simp [*]; done)), H', ⟨by have := HJ4.out; first | omega | exact Nat.le_refl _⟩, ⟨by (with_reducible repeat (first | apply Kd.R_alloc | apply Kd.R_drewN | apply Kd.R_drew)); exact Kd.R_mono HO433.out (fun _ hk => hk.2)⟩, ⟨by (with_reducible repeat (first | apply Kd.R_alloc | apply Kd.R_drewN | apply Kd.R_drew)); exact Kd.R_mono HO437.out (fun _ hk => hk.2)⟩, ⟨by repeat (first | (with_reducible first | exact HB.out | apply below_alloc | apply pw_below_drewN | apply below_drew1) | exact HB.out)⟩⟩
     ·rw [if_neg c21] at H
      have c21b0 : (t431 == 0) = false := beq_eq_false_iff_ne.mpr c21
      have c21b1 : (t431 != 0) = true := bne_iff_ne.mpr c21
      (first | rw [c21b0] | (simp only [i64_w, i32_w]; rw [c21b0]) | skip)
      have H' := Aside0.mk H
      clear H
      go_wp2
      go_meet
      case rel => exact ⟨_, (true), (by first | rfl | (simp; done) | (simp [*]; done)), H', ⟨by have := HJ4.out; first | omega | exact Nat.le_refl _⟩, ⟨by (with_reducible repeat (first | apply Kd.R_alloc | apply Kd.R_drewN | apply Kd.R_drew)); exact Kd.R_mono HO433.out (fun _ hk => hk.2)⟩, ⟨by (with_reducible repeat (first | apply Kd.R_alloc | apply Kd.R_drewN | apply Kd.R_drew)); exact Kd.R_mono HO437.out (fun _ hk => hk.2)⟩, ⟨by repeat (first | (with_reducible first | exact HB.out | apply below_alloc | apply pw_below_drewN | apply below_drew1) | exact HB.out)⟩⟩
    case rest =>
     clear HC18
     try clear c1
     try clear c2
     try clear p2
     try clear c3
     try clear c7
     try clear c8
     try clear c9
     try clear c10
     try clear c11
     try clear c13
     try clear c20
     try clear c21
     try clear c21b0
     try clear c21b1
     try clear p2
     obtain ⟨kq, x51_17, rfl, HA, HJ17, HO_9, HO_11, HB⟩ := hcut
     cases kq with
     | zero => exact absurd HA.out (by simp [haywainlaw10_PlanBetter.j1])
     | succ kj17 =>
      have H := HA.out
      clear HA
      simp only [haywainlaw10_PlanBetter.j1] at H
      by_cases c22 : x51_17 = true
      ·subst c22
       have H1 : (if t431 = t435 then (if (t434.length : Int) = 0 then ((haywainlaw10_knows.f kj17).bind fun t438 => (some t438)) else (none)) else (none)) = some r := by rw [if_pos rfl] at H; exact H
       clear H
       have H := H1
       clear H1
       by_cases c23 : t431 = t435
       ·rw [if_pos c23] at H
        have c23b0 : (t431 == t435) = true := beq_iff_eq.mpr c23
        have c23b1 : (t431 != t435) = false := bne_eq_false_iff_eq.mpr c23
        clear c23
        by_cases c24 : (t434.length : Int) = 0
        ·rw [if_pos c24] at H
         have c24b0 : ((t434.length : Int) == 0) = true := beq_iff_eq.mpr c24
         have c24b1 : ((t434.length : Int) != 0) = false := bne_eq_false_iff_eq.mpr c24
         clear c24
         replace H := Option.bind_eq_some_iff.mp H
         obtain ⟨t438, A250, H⟩ := H
         replace H : (some t438) = some r := H
         have A25 := Aside0.mk A250
         clear A250
         obtain rfl := Option.some.inj H
         obtain ⟨Ao26, co26, eo26⟩ := Kd.R_slice HO_11.out
         subst eo26
         go_wp2_with (first | (go_at_call 11; (with_reducible refine (haywainlaw10_knows.calls kj17  t438 _ A25.out).mono ?_); rintro e w27 ⟨rfl, hb⟩; have n0_ := Aside0.mk (Kd.R_below (by (with_reducible repeat (first | apply Kd.R_alloc | apply Kd.R_drewN | apply Kd.R_drew)); exact HO_9.out) hb); have n1_ := Aside0.mk (Kd.R_below (by (with_reducible repeat (first | apply Kd.R_alloc | apply Kd.R_drewN | apply Kd.R_drew)); exact HO_11.out) hb); have n2_ := Aside0.mk (below_step (by repeat (first | (with_reducible first | exact HB.out | apply below_alloc | apply pw_below_drewN | apply below_drew1) | exact HB.out)) hb); clear HO_9; clear HO_11; clear HB; have HO_9 := n0_; have HO_11 := n1_; have HB := n2_; clear n0_ n1_ n2_; (try clear hb); (try clear hb2); (try clear hk); (try clear hi)))
         go_ret
         exact ⟨by first | rfl | (simp [errW_none, errW_some] <;> rfl) | (simp [*, errW_none, errW_some] <;> rfl), by repeat (first | (with_reducible first | exact HB.out | apply below_alloc | apply pw_below_drewN | apply below_drew1) | exact HB.out)⟩
        ·rw [if_neg c24] at H
         exact absurd H (by simp)
       ·rw [if_neg c23] at H
        exact absurd H (by simp)
      ·replace c22 := Bool.eq_false_iff.mpr c22
       subst c22
       have H1 : ((plan_Loads.f kj17 t434 l1 l2 l3).bind fun bt439 => (if bt439.2 = 0 then (if (t434.length : Int) = (l0.length : Int) then ((haywainlaw10_most.f kj17 bt439.1).bind fun t443 => ((haywainlaw10_most.f kj17 t430).bind fun t444 => (if t443 ≤ t444 then ((haywainlaw10_knows.f kj17).bind fun t445 => (some t445)) else (none)))) else (none)) else (none))) = some r := by rw [if_neg (show ¬ (false = true) by decide)] at H; exact H
       clear H
       have H := H1
       clear H1
       replace H := Option.bind_eq_some_iff.mp H
       obtain ⟨⟨t439, t440⟩, A280, H⟩ := H
       replace H : (if t440 = 0 then (if (t434.length : Int) = (l0.length : Int) then ((haywainlaw10_most.f kj17 t439).bind fun t443 => ((haywainlaw10_most.f kj17 t430).bind fun t444 => (if t443 ≤ t444 then ((haywainlaw10_knows.f kj17).bind fun t445 => (some t445)) else (none)))) else (none)) else (none)) = some r := H
       have A28 := Aside0.mk A280
       clear A280
       by_cases c29 : t440 = 0
       ·rw [if_pos c29] at H
        have c29b0 : (t440 == 0) = true := beq_iff_eq.mpr c29
        have c29b1 : (t440 != 0) = false := bne_eq_false_iff_eq.mpr c29
        clear c29
        by_cases c30 : (t434.length : Int) = (l0.length : Int)
        ·rw [if_pos c30] at H
         have c30b0 : ((t434.length : Int) == (l0.length : Int)) = true := beq_iff_eq.mpr c30
         have c30b1 : ((t434.length : Int) != (l0.length : Int)) = false := bne_eq_false_iff_eq.mpr c30
         have c30b2 : (t434.length == l0.length) = true := by first | simpa using c30 | (simp at c30 ⊢; omega)
         clear c30
         replace H := Option.bind_eq_some_iff.mp H
         obtain ⟨t443, A310, H⟩ := H
         replace H : ((haywainlaw10_most.f kj17 t430).bind fun t444 => (if t443 ≤ t444 then ((haywainlaw10_knows.f kj17).bind fun t445 => (some t445)) else (none))) = some r := H
         have A31 := Aside0.mk A310
         clear A310
         replace H := Option.bind_eq_some_iff.mp H
         obtain ⟨t444, A320, H⟩ := H
         replace H : (if t443 ≤ t444 then ((haywainlaw10_knows.f kj17).bind fun t445 => (some t445)) else (none)) = some r := H
         have A32 := Aside0.mk A320
         clear A320
         by_cases c33 : t443 ≤ t444
         ·rw [if_pos c33] at H
          have c33b0 : decide (t443 ≤ t444) = true := decide_eq_true c33
          clear c33
          replace H := Option.bind_eq_some_iff.mp H
          obtain ⟨t445, A340, H⟩ := H
          replace H : (some t445) = some r := H
          have A34 := Aside0.mk A340
          clear A340
          obtain rfl := Option.some.inj H
          obtain ⟨Ao35, co35, eo35⟩ := Kd.R_slice HO_11.out
          subst eo35
          go_wp2_with (first | ((with_reducible refine gate_callee (f := 20) rfl ?_); refine goesL_ (some 68) rfl rfl Try.func20 (by kernel_rfl) rfl #[.slice Ao35 t434.length co35, .slice A1 l1.length c1, .slice A2 l2.length c2, .slice A3 l3.length c3] rfl (by (try simp only [List.map_toArray, List.map_cons, List.map_nil]); first | done | rfl | (simp only [List.length_drop, List.length_take]; rfl)) ?_; (with_reducible refine (plan_Loads.calls kj17 _ _ t434 _ _ l1 _ _ l2 _ _ l3 t439 t440 _ ?side1 ?side2 ?side3 ?side4 ?side5 ?side6 ?side7 ?side8 A28.out).mono ?_); (case side1 => repeat (first | exact (Kd.R_reads' HO_11.out).2.2 | (with_reducible refine Kd.C_alloc ?_ _) | (with_reducible refine Kd.C_drewN ?_ _) | (with_reducible refine Kd.C_drew ?_))); (case side2 => exact (Kd.R_reads' HO_11.out).2.1); (case side3 => repeat (first | exact (Kd.C_below HR1.out HB.out) | (with_reducible refine Kd.C_alloc ?_ _) | (with_reducible refine Kd.C_drewN ?_ _) | (with_reducible refine Kd.C_drew ?_))); (case side4 => exact HC1.out); (case side5 => repeat (first | exact (Kd.C_below HR2.out HB.out) | (with_reducible refine Kd.C_alloc ?_ _) | (with_reducible refine Kd.C_drewN ?_ _) | (with_reducible refine Kd.C_drew ?_))); (case side6 => exact HC2.out); (case side7 => repeat (first | exact (Kd.C_below HR3.out HB.out) | (with_reducible refine Kd.C_alloc ?_ _) | (with_reducible refine Kd.C_drewN ?_ _) | (with_reducible refine Kd.C_drew ?_))); (case side8 => exact HC3.out); rintro e w36 ⟨v441, rfl, ho0, hb⟩; refine ⟨_, rfl, ?_⟩; have n0_ := Aside0.mk (Kd.R_elder' (by (with_reducible repeat (first | apply Kd.R_alloc | apply Kd.R_drewN | apply Kd.R_drew)); exact HO_9.out) (Kd.R_base ho0) hb); have n1_ := Aside0.mk (Kd.R_elder' (by (with_reducible repeat (first | apply Kd.R_alloc | apply Kd.R_drewN | apply Kd.R_drew)); exact HO_11.out) (Kd.R_base ho0) hb); have n2_ := Aside0.mk (Kd.R_lower (Kd.R_new' (Kd.R_new' ho0 (Kd.R_lt (by (with_reducible repeat (first | apply Kd.R_alloc | apply Kd.R_drewN | apply Kd.R_drew)); exact HO_9.out))) (Kd.R_lt (by (with_reducible repeat (first | apply Kd.R_alloc | apply Kd.R_drewN | apply Kd.R_drew)); exact HO_11.out))) (below_size (by repeat (first | (with_reducible first | exact HB.out | apply below_alloc | apply pw_below_drewN | apply below_drew1) | exact HB.out)))); have n3_ := Aside0.mk (below_step (by repeat (first | (with_reducible first | exact HB.out | apply below_alloc | apply pw_below_drewN | apply below_drew1) | exact HB.out)) hb); clear HO_9; clear HO_11; clear HB; have HO_9 := n0_; have HO_11 := n1_; have HO442 := n2_; have HB := n3_; clear n0_ n1_ n2_ n3_; (try clear hb); (try clear hb2); (try clear hk); (try clear hi); (try clear ho0); obtain ⟨Ao37, co37, eo37⟩ := Kd.R_slice HO442.out; subst eo37) | (go_at_call 24; (with_reducible refine (haywainlaw10_most.calls kj17 _ _ t439 t443 _ ?side1 ?side2 A31.out).mono ?_); (case side1 => repeat (first | exact (Kd.R_reads' HO442.out).2.2 | (with_reducible refine Kd.C_alloc ?_ _) | (with_reducible refine Kd.C_drewN ?_ _) | (with_reducible refine Kd.C_drew ?_))); (case side2 => exact (Kd.R_reads' HO442.out).2.1); rintro e w' ⟨rfl, ⟨nd, rfl⟩⟩; obtain ⟨Ao38, co38, eo38⟩ := Kd.R_slice HO_9.out; subst eo38) | (go_at_call 24; (with_reducible refine (haywainlaw10_most.calls kj17 _ _ t430 t444 _ ?side1 ?side2 A32.out).mono ?_); (case side1 => repeat (first | exact (Kd.R_reads' HO_9.out).2.2 | (with_reducible refine Kd.C_alloc ?_ _) | (with_reducible refine Kd.C_drewN ?_ _) | (with_reducible refine Kd.C_drew ?_))); (case side2 => exact (Kd.R_reads' HO_9.out).2.1); rintro e w' ⟨rfl, ⟨nd, rfl⟩⟩) | (go_at_call 11; (with_reducible refine (haywainlaw10_knows.calls kj17  t445 _ A34.out).mono ?_); rintro e w39 ⟨rfl, hb⟩; have n0_ := Aside0.mk (Kd.R_below (by (with_reducible repeat (first | apply Kd.R_alloc | apply Kd.R_drewN | apply Kd.R_drew)); exact HO_9.out) hb); have n1_ := Aside0.mk (Kd.R_below (by (with_reducible repeat (first | apply Kd.R_alloc | apply Kd.R_drewN | apply Kd.R_drew)); exact HO_11.out) hb); have n2_ := Aside0.mk (Kd.R_below (by (with_reducible repeat (first | apply Kd.R_alloc | apply Kd.R_drewN | apply Kd.R_drew)); exact HO442.out) hb); have n3_ := Aside0.mk (below_step (by repeat (first | (with_reducible first | exact HB.out | apply below_alloc | apply pw_below_drewN | apply below_drew1) | exact HB.out)) hb); clear HO_9; clear HO_11; clear HO442; clear HB; have HO_9 := n0_; have HO_11 := n1_; have HO442 := n2_; have HB := n3_; clear n0_ n1_ n2_ n3_; (try clear hb); (try clear hb2); (try clear hk); (try clear hi)))
          go_ret
          exact ⟨by first | rfl | (simp [errW_none, errW_some] <;> rfl) | (simp [*, errW_none, errW_some] <;> rfl), by repeat (first | (with_reducible first | exact HB.out | apply below_alloc | apply pw_below_drewN | apply below_drew1) | exact HB.out)⟩
         ·rw [if_neg c33] at H
          exact absurd H (by simp)
        ·rw [if_neg c30] at H
         exact absurd H (by simp)
       ·rw [if_neg c29] at H
        exact absurd H (by simp)

/-- THE ONE PURE STATEMENT of haywainlaw10_PlanBetter: yours. -/
def haywainlaw10_PlanBetter.Pure : Prop := ∀ (l0 : List Int) (l1 : List Int) (l2 : List Int) (l3 : List Int), l0.length ≤ maxLen → l0.length * 8 ≤ 140737488351232 → (∀ x ∈ l0, (Lit.int .i64 x).wf = true) → l1.length ≤ maxLen → l1.length * 8 ≤ 140737488351232 → (∀ x ∈ l1, (Lit.int .i64 x).wf = true) → l2.length ≤ maxLen → l2.length * 8 ≤ 140737488351232 → (∀ x ∈ l2, (Lit.int .i64 x).wf = true) → l3.length ≤ maxLen → l3.length * 8 ≤ 140737488351232 → (∀ x ∈ l3, (Lit.int .i64 x).wf = true) → ∃ k, haywainlaw10_PlanBetter.f k l0 l1 l2 l3 = some true
theorem haywainlaw10_PlanBetter.walk (P : haywainlaw10_PlanBetter.Pure) (a0 : Option Addr) (len0 cap0 : Nat) (z0 : List Int) (a1 : Option Addr) (len1 cap1 : Nat) (z1 : List Int) (a2 : Option Addr) (len2 cap2 : Nat) (z2 : List Int) (a3 : Option Addr) (len3 cap3 : Nat) (z3 : List Int) (w : World) (w0 : (a0 = none ∧ len0 = 0 ∧ cap0 = 0 ∧ z0 = []) ∨ ∃ x, a0 = some x ∧ len0 ≤ cap0 ∧ cap0 ≤ maxLen ∧ z0.length = cap0 ∧ (∀ i, i < z0.length → w.cell? (x.add i) = some (.int .i64 (z0.getD i 0))) ∧ ∀ n ∈ z0, (Lit.int .i64 n).wf = true) (y0 : len0 * 8 ≤ 140737488351232) (w1 : (a1 = none ∧ len1 = 0 ∧ cap1 = 0 ∧ z1 = []) ∨ ∃ x, a1 = some x ∧ len1 ≤ cap1 ∧ cap1 ≤ maxLen ∧ z1.length = cap1 ∧ (∀ i, i < z1.length → w.cell? (x.add i) = some (.int .i64 (z1.getD i 0))) ∧ ∀ n ∈ z1, (Lit.int .i64 n).wf = true) (y1 : len1 * 8 ≤ 140737488351232) (w2 : (a2 = none ∧ len2 = 0 ∧ cap2 = 0 ∧ z2 = []) ∨ ∃ x, a2 = some x ∧ len2 ≤ cap2 ∧ cap2 ≤ maxLen ∧ z2.length = cap2 ∧ (∀ i, i < z2.length → w.cell? (x.add i) = some (.int .i64 (z2.getD i 0))) ∧ ∀ n ∈ z2, (Lit.int .i64 n).wf = true) (y2 : len2 * 8 ≤ 140737488351232) (w3 : (a3 = none ∧ len3 = 0 ∧ cap3 = 0 ∧ z3 = []) ∨ ∃ x, a3 = some x ∧ len3 ≤ cap3 ∧ cap3 ≤ maxLen ∧ z3.length = cap3 ∧ (∀ i, i < z3.length → w.cell? (x.add i) = some (.int .i64 (z3.getD i 0))) ∧ ∀ n ∈ z3, (Lit.int .i64 n).wf = true) (y3 : len3 * 8 ≤ 140737488351232) :
  Calls Try.prog 8 #[.slice a0 len0 cap0, .slice a1 len1 cap1, .slice a2 len2 cap2, .slice a3 len3 cap3] w fun e w' => e = .returned (.bool true) ∧ Below w.heap.size w w' := by
 obtain ⟨l0, rfl, hr0, hm0, hw0, hc0⟩ := ReadsInt.ofRowC w0
 obtain ⟨l1, rfl, hr1, hm1, hw1, hc1⟩ := ReadsInt.ofRowC w1
 obtain ⟨l2, rfl, hr2, hm2, hw2, hc2⟩ := ReadsInt.ofRowC w2
 obtain ⟨l3, rfl, hr3, hm3, hw3, hc3⟩ := ReadsInt.ofRowC w3
 obtain ⟨k, h⟩ := P l0 l1 l2 l3 hm0 y0 hw0 hm1 y1 hw1 hm2 y2 hw2 hm3 y3 hw3
 refine (haywainlaw10_PlanBetter.calls k _ _ l0 _ _ l1 _ _ l2 _ _ l3 true w (Kd.C_of_reads (d := (0 : Int)) (h1 := fun _ => rfl) hr0) hc0 (Kd.C_of_reads (d := (0 : Int)) (h1 := fun _ => rfl) hr1) hc1 (Kd.C_of_reads (d := (0 : Int)) (h1 := fun _ => rfl) hr2) hc2 (Kd.C_of_reads (d := (0 : Int)) (h1 := fun _ => rfl) hr3) hc3 h).mono ?_
 rintro e w' ⟨rfl, hd⟩
 exact ⟨rfl, hd⟩

end Go.Proofs.Ytjlmlmacgopliaa.PPlan
