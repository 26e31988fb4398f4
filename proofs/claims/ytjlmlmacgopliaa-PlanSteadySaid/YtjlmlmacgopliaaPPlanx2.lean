-- Printed for this claim by a turned copy of the print (wip/tools/patch.py); a text of this session, not of print.sh.
import Derived.Test.YtjlmlmacgopliaaPPlanx0
namespace Go.Proofs.Ytjlmlmacgopliaa.PPlan
open Go.RowKit Go.Proofs.YtjlmlmacgopliaaW.PrintWords Go.Proofs.YtjlmlmacgopliaaW.PrintLast Go.Proofs.YtjlmlmacgopliaaW.PrintMore
attribute [local go_sem] max2_int min2_int max_two min_two max_three min_three max_four min_four   -- for this text's walks alone
set_option linter.unusedVariables false
set_option linter.unusedSimpArgs false

/-! ### haywainlaw10_great: function 10 -/
def haywainlaw10_great.f (l0 : List Int) : Option (Bool) := some (decide ((l0.length : Int) > 50))
set_option maxHeartbeats 8000000 in
set_option maxRecDepth 100000 in
theorem haywainlaw10_great.calls (A0 : Option Addr) (c0 : Nat) (l0 : List Int) (r : Bool) (w : World) (hr0 : Kd.C (Kd.int .i64) w A0 l0.length l0) (hc0 : l0.length ≤ c0) (h : haywainlaw10_great.f l0 = some r) :
  Calls Try.prog 10 #[.slice A0 l0.length c0] w fun e w' => e = .returned (.bool r) ∧ Drawn0 w w' := by
 have HR0 := Aside0.mk hr0
 have HC0 := Aside0.mk hc0
 clear hr0 hc0
 have H : (some (decide ((l0.length : Int) > 50))) = some r := h
 clear h
 obtain rfl := Option.some.inj H
 go_enter Try.func10, Try.ntmps10
 go_wp2
 go_ret
 exact ⟨by first | rfl | (simp; done) | (simp [*]; done), by repeat (first | exact Drawn0.refl _ | apply Drawn0.step)⟩

/-! ### plan_Right: function 15 -/
def plan_Right.l0 : Nat → List Int → List Int → Int → Int → Option (Bool)
 | 0, _, _, _, _ => none
 | k + 1, x0, x5, x6, x7 => if x7 < x6 then (if 0 ≤ x7 then (if x7 < (x5.length : Int) then (if (rd x5 x7) < 1 then (some false) else (if (rd x5 x7) > 99 then (some false) else (plan_Right.l0 k x0 x5 x6 (wrap64 (x7 + 1))))) else (none)) else (none)) else (if (x0.length : Int) ≥ 1 then (some (decide ((x0.length : Int) ≤ 6))) else (some false))
def plan_Right.f (k : Nat) (l0 : List Int) : Option (Bool) := plan_Right.l0 k l0 l0 (l0.length : Int) 0
theorem plan_Right.mono_l : ∀ k, (∀ y0 y1 y2 y3, LeO (plan_Right.l0 k y0 y1 y2 y3) (plan_Right.l0 (k + 1) y0 y1 y2 y3))
 | 0 => fun _ _ _ _ r h => by simp [plan_Right.l0] at h
 | k + 1 => by
  have ih0 := plan_Right.mono_l k
  ·intro y0 y1 y2 y3
   unfold plan_Right.l0
   repeat' first
   | (with_reducible exact ih0 _ _ _ _)
   | (with_reducible exact LeO.refl _)
   | (with_reducible exact LeO.none _)
   | (with_reducible refine LeO.ite ?_ ?_)
   | (with_reducible refine LeO.bind ?_ (fun _ => ?_))
   | exact ih0 _ _ _ _
   | exact LeO.none _
   | refine LeO.ite ?_ ?_
   | refine LeO.bind ?_ (fun _ => ?_)
theorem plan_Right.mono : ∀ a0 k, LeO (plan_Right.f k a0) (plan_Right.f (k + 1) a0) := by
 intro a0 k
 have ih0 := plan_Right.mono_l k
 unfold plan_Right.f
 repeat' first
   | (with_reducible exact ih0 _ _ _ _)
   | (with_reducible exact LeO.refl _)
   | (with_reducible exact LeO.none _)
   | (with_reducible refine LeO.ite ?_ ?_)
   | (with_reducible refine LeO.bind ?_ (fun _ => ?_))
   | exact ih0 _ _ _ _
   | exact LeO.none _
   | refine LeO.ite ?_ ?_
   | refine LeO.bind ?_ (fun _ => ?_)
set_option maxHeartbeats 8000000 in
set_option maxRecDepth 100000 in
theorem plan_Right.calls (k : Nat) (A0 : Option Addr) (c0 : Nat) (l0 : List Int) (r : Bool) (w : World) (hr0 : Kd.C (Kd.int .i64) w A0 l0.length l0) (hc0 : l0.length ≤ c0) (h : plan_Right.f k l0 = some r) :
  Calls Try.prog 15 #[.slice A0 l0.length c0] w fun e w' => e = .returned (.bool r) ∧ Drawn0 w w' := by
 have HR0 := Aside0.mk hr0
 have HC0 := Aside0.mk hc0
 clear hr0 hc0
 have H : (plan_Right.l0 k l0 l0 (l0.length : Int) 0) = some r := h
 clear h
 have H' := Aside0.mk H
 clear H
 go_enter Try.func15, Try.ntmps15
 go_wp2
 go_loopg [7] k (fun kq v7 w' => ∃ (x7_1 : Int), v7 = .int .i64 x7_1 ∧ Aside0 (plan_Right.l0 kq l0 l0 (l0.length : Int) x7_1 = some r) ∧ Aside0 (kq ≤ k) ∧ Drawn0 w w')
 case atStart => exact ⟨(0), (by first | rfl | (simp; done) | (simp [*]; done)), H', ⟨Nat.le_refl _⟩, by repeat (first | exact Drawn0.refl _ | apply Drawn0.step)⟩
 case round =>
  clear H'
  try clear c1
  obtain ⟨x7_1, rfl, HA, HK1, ⟨m1, rfl⟩⟩ := hrel
  cases gk with
  | zero => exact absurd HA.out (by simp [plan_Right.l0])
  | succ k1 =>
   have H := HA.out
   clear HA
   simp only [plan_Right.l0] at H
   by_cases c2 : x7_1 < (l0.length : Int)
   ·rw [if_pos c2] at H
    have c2b0 : decide (x7_1 < (l0.length : Int)) = true := decide_eq_true c2
    clear c2
    by_cases c3 : 0 ≤ x7_1
    ·rw [if_pos c3] at H
     have c3b0 : decide (0 ≤ x7_1) = true := decide_eq_true c3
     clear c3
     by_cases c4 : x7_1 < (l0.length : Int)
     ·rw [if_pos c4] at H
      have c4b0 : decide (x7_1 < (l0.length : Int)) = true := decide_eq_true c4
      clear c4
      by_cases c5 : (rd l0 x7_1) < 1
      ·rw [if_pos c5] at H
       have c5b0 : decide ((rd l0 x7_1) < 1) = true := decide_eq_true c5
       clear c5
       obtain rfl := Option.some.inj H
       have p101 : 0 ≤ (x7_1 : Int) := of_decide_eq_true (by first | (with_reducible assumption) | assumption)
       have q101 : x7_1 < (l0.length : Int) := of_decide_eq_true (by first | (with_reducible assumption) | assumption)
       obtain ⟨ad101, e101, hx101_0⟩ := Kd.at_int HR0.out x7_1 p101 q101
       cases e101
       replace p101 := eq_true p101
       replace q101 := eq_true q101
       go_wp2
       go_ret
       exact ⟨by first | rfl | (simp; done) | (simp [*]; done), by repeat (first | exact Drawn0.refl _ | apply Drawn0.step)⟩
      ·rw [if_neg c5] at H
       have c5b0 : decide ((rd l0 x7_1) < 1) = false := decide_eq_false c5
       clear c5
       by_cases c6 : (rd l0 x7_1) > 99
       ·rw [if_pos c6] at H
        have c6b0 : decide (99 < (rd l0 x7_1)) = true := decide_eq_true c6
        clear c6
        obtain rfl := Option.some.inj H
        have p101 : 0 ≤ (x7_1 : Int) := of_decide_eq_true (by first | (with_reducible assumption) | assumption)
        have q101 : x7_1 < (l0.length : Int) := of_decide_eq_true (by first | (with_reducible assumption) | assumption)
        obtain ⟨ad101, e101, hx101_0⟩ := Kd.at_int HR0.out x7_1 p101 q101
        cases e101
        replace p101 := eq_true p101
        replace q101 := eq_true q101
        go_wp2
        go_ret
        exact ⟨by first | rfl | (simp; done) | (simp [*]; done), by repeat (first | exact Drawn0.refl _ | apply Drawn0.step)⟩
       ·rw [if_neg c6] at H
        have c6b0 : decide (99 < (rd l0 x7_1)) = false := decide_eq_false c6
        clear c6
        have H' := Aside0.mk H
        clear H
        have p101 : 0 ≤ (x7_1 : Int) := of_decide_eq_true (by first | (with_reducible assumption) | assumption)
        have q101 : x7_1 < (l0.length : Int) := of_decide_eq_true (by first | (with_reducible assumption) | assumption)
        obtain ⟨ad101, e101, hx101_0⟩ := Kd.at_int HR0.out x7_1 p101 q101
        cases e101
        replace p101 := eq_true p101
        replace q101 := eq_true q101
        go_wp2
        go_roundg k1
        case measure => have := HK1.out; omega
        case rel => exact ⟨(wrap64 (x7_1 + 1)), (by first | rfl | (simp; done) | (simp [*]; done)), H', ⟨by have := HK1.out; omega⟩, by repeat (first | exact Drawn0.refl _ | apply Drawn0.step)⟩
     ·rw [if_neg c4] at H
      exact absurd H (by simp)
    ·rw [if_neg c3] at H
     exact absurd H (by simp)
   ·rw [if_neg c2] at H
    have c2b0 : decide (x7_1 < (l0.length : Int)) = false := decide_eq_false c2
    clear c2
    by_cases c7 : (l0.length : Int) ≥ 1
    ·rw [if_pos c7] at H
     have c7b0 : decide (1 ≤ (l0.length : Int)) = true := decide_eq_true c7
     have c7b1 : decide (1 ≤ l0.length) = true := decide_eq_true (by omega)
     clear c7
     obtain rfl := Option.some.inj H
     go_wp2
     go_ret
     exact ⟨by first | rfl | (simp; done) | (simp [*]; done), by repeat (first | exact Drawn0.refl _ | apply Drawn0.step)⟩
    ·rw [if_neg c7] at H
     have c7b0 : decide (1 ≤ (l0.length : Int)) = false := decide_eq_false c7
     have c7b1 : decide (1 ≤ l0.length) = false := decide_eq_false (by omega)
     clear c7
     obtain rfl := Option.some.inj H
     go_wp2
     go_ret
     exact ⟨by first | rfl | (simp; done) | (simp [*]; done), by repeat (first | exact Drawn0.refl _ | apply Drawn0.step)⟩

/-! ### plan_Moves: function 12 -/
mutual
def plan_Moves.j0 : Nat → List Int → List Int → Bool → Option ((List (S35)) × Int)
 | 0, _, _, _ => none
 | k + 1, x0, x1, x23 => if x23 = true then (some (([] : List (S35)), 1)) else (plan_Moves.l0 k x1 ([] : List (S35)) x0 (x0.length : Int) 0)
def plan_Moves.l0 : Nat → List Int → List (S35) → List Int → Int → Int → Option ((List (S35)) × Int)
 | 0, _, _, _, _, _ => none
 | k + 1, x1, x6, x24, x25, x26 => if x26 < x25 then (if 0 ≤ x26 then (if x26 < (x24.length : Int) then (if x26 < (x1.length : Int) then (if (rd x1 x26) = (rd x24 x26) then (plan_Moves.l0 k x1 x6 x24 x25 (wrap64 (x26 + 1))) else (if x6.length < 5864062014805 then (plan_Moves.l0 k x1 (x6 ++ [(⟨x26, rd x24 x26, rd x1 x26⟩ : S35)]) x24 x25 (wrap64 (x26 + 1))) else (none))) else (none)) else (none)) else (none)) else (some (x6, 0))
end
def plan_Moves.f (k : Nat) (l0 : List Int) (l1 : List Int) : Option ((List (S35)) × Int) := (plan_Right.f k l0).bind fun t102 => (if t102 = true then ((plan_Right.f k l1).bind fun t103 => (if t103 = true then (plan_Moves.j0 k l0 l1 ((l0.length : Int) != (l1.length : Int))) else (plan_Moves.j0 k l0 l1 true))) else (plan_Moves.j0 k l0 l1 true))
theorem plan_Moves.mono_l : ∀ k, (∀ y0 y1 y2, LeO (plan_Moves.j0 k y0 y1 y2) (plan_Moves.j0 (k + 1) y0 y1 y2)) ∧ (∀ y0 y1 y2 y3 y4, LeO (plan_Moves.l0 k y0 y1 y2 y3 y4) (plan_Moves.l0 (k + 1) y0 y1 y2 y3 y4))
 | 0 => ⟨fun _ _ _ r h => by simp [plan_Moves.j0] at h, fun _ _ _ _ _ r h => by simp [plan_Moves.l0] at h⟩
 | k + 1 => by
  obtain ⟨ih0, ih1⟩ := plan_Moves.mono_l k
  refine ⟨?_, ?_⟩
  ·intro y0 y1 y2
   unfold plan_Moves.j0
   repeat' first
   | (with_reducible exact ih0 _ _ _)
   | (with_reducible exact ih1 _ _ _ _ _)
   | (with_reducible exact plan_Right.mono _ _)
   | (with_reducible exact LeO.refl _)
   | (with_reducible exact LeO.none _)
   | (with_reducible refine LeO.ite ?_ ?_)
   | (with_reducible refine LeO.bind ?_ (fun _ => ?_))
   | exact ih0 _ _ _
   | exact ih1 _ _ _ _ _
   | exact plan_Right.mono _ _
   | exact LeO.none _
   | refine LeO.ite ?_ ?_
   | refine LeO.bind ?_ (fun _ => ?_)
  ·intro y0 y1 y2 y3 y4
   unfold plan_Moves.l0
   repeat' first
   | (with_reducible exact ih0 _ _ _)
   | (with_reducible exact ih1 _ _ _ _ _)
   | (with_reducible exact plan_Right.mono _ _)
   | (with_reducible exact LeO.refl _)
   | (with_reducible exact LeO.none _)
   | (with_reducible refine LeO.ite ?_ ?_)
   | (with_reducible refine LeO.bind ?_ (fun _ => ?_))
   | exact ih0 _ _ _
   | exact ih1 _ _ _ _ _
   | exact plan_Right.mono _ _
   | exact LeO.none _
   | refine LeO.ite ?_ ?_
   | refine LeO.bind ?_ (fun _ => ?_)
theorem plan_Moves.mono : ∀ a0 a1 k, LeO (plan_Moves.f k a0 a1) (plan_Moves.f (k + 1) a0 a1) := by
 intro a0 a1 k
 obtain ⟨ih0, ih1⟩ := plan_Moves.mono_l k
 unfold plan_Moves.f
 repeat' first
   | (with_reducible exact ih0 _ _ _)
   | (with_reducible exact ih1 _ _ _ _ _)
   | (with_reducible exact plan_Right.mono _ _)
   | (with_reducible exact LeO.refl _)
   | (with_reducible exact LeO.none _)
   | (with_reducible refine LeO.ite ?_ ?_)
   | (with_reducible refine LeO.bind ?_ (fun _ => ?_))
   | exact ih0 _ _ _
   | exact ih1 _ _ _ _ _
   | exact plan_Right.mono _ _
   | exact LeO.none _
   | refine LeO.ite ?_ ?_
   | refine LeO.bind ?_ (fun _ => ?_)
set_option maxHeartbeats 8000000 in
set_option maxRecDepth 100000 in
theorem plan_Moves.calls (k : Nat) (A0 : Option Addr) (c0 : Nat) (l0 : List Int) (A1 : Option Addr) (c1 : Nat) (l1 : List Int) (r1 : List (S35)) (r2 : Int) (w : World) (hr0 : Kd.C (Kd.int .i64) w A0 l0.length l0) (hc0 : l0.length ≤ c0) (hr1 : Kd.C (Kd.int .i64) w A1 l1.length l1) (hc1 : l1.length ≤ c1) (h : plan_Moves.f k l0 l1 = some (r1, r2)) :
  Calls Try.prog 12 #[.slice A0 l0.length c0, .slice A1 l1.length c1] w fun e w' => ∃ v0_ : Value, e = .returned (.tuple #[v0_, .int .i64 r2]) ∧ Kd.R k35 35 w' w.heap.size (fun _ => True) v0_ r1 ∧ Below w.heap.size w w' := by
 have hu35 := Try.underlying35
 have HR0 := Aside0.mk hr0
 have HC0 := Aside0.mk hc0
 clear hr0 hc0
 have HR1 := Aside0.mk hr1
 have HC1 := Aside0.mk hc1
 clear hr1 hc1
 have HB := Aside0.mk (Below.refl w.heap.size w)
 have H : ((plan_Right.f k l0).bind fun t102 => (if t102 = true then ((plan_Right.f k l1).bind fun t103 => (if t103 = true then (plan_Moves.j0 k l0 l1 ((l0.length : Int) != (l1.length : Int))) else (plan_Moves.j0 k l0 l1 true))) else (plan_Moves.j0 k l0 l1 true))) = some (r1, r2) := h
 clear h
 have HC3 := Aside0.mk H
 clear H
 go_enter Try.func12, Try.ntmps12
 go_upto_region 1 with (fail)
 go_cut [23] (fun v23 wc => ∃ (kq : Nat) (x23_2 : Bool), v23 = .bool x23_2 ∧ Aside0 (plan_Moves.j0 kq l0 l1 x23_2 = some (r1, r2)) ∧ Aside0 (kq ≤ k) ∧ Aside0 (Below w.heap.size w wc))
 case first =>
  have H := HC3.out
  clear HC3
  replace H := Option.bind_eq_some_iff.mp H
  obtain ⟨t102, A40, H⟩ := H
  replace H : (if t102 = true then ((plan_Right.f k l1).bind fun t103 => (if t103 = true then (plan_Moves.j0 k l0 l1 ((l0.length : Int) != (l1.length : Int))) else (plan_Moves.j0 k l0 l1 true))) else (plan_Moves.j0 k l0 l1 true)) = some (r1, r2) := H
  have A4 := Aside0.mk A40
  clear A40
  by_cases c5 : t102 = true
  ·subst c5
   have H1 : ((plan_Right.f k l1).bind fun t103 => (if t103 = true then (plan_Moves.j0 k l0 l1 ((l0.length : Int) != (l1.length : Int))) else (plan_Moves.j0 k l0 l1 true))) = some (r1, r2) := by rw [if_pos rfl] at H; exact H
   clear H
   have H := H1
   clear H1
   replace H := Option.bind_eq_some_iff.mp H
   obtain ⟨t103, A60, H⟩ := H
   replace H : (if t103 = true then (plan_Moves.j0 k l0 l1 ((l0.length : Int) != (l1.length : Int))) else (plan_Moves.j0 k l0 l1 true)) = some (r1, r2) := H
   have A6 := Aside0.mk A60
   clear A60
   by_cases c7 : t103 = true
   ·subst c7
    have H1 : (plan_Moves.j0 k l0 l1 ((l0.length : Int) != (l1.length : Int))) = some (r1, r2) := by rw [if_pos rfl] at H; exact H
    clear H
    have H := H1
    clear H1
    have H' := Aside0.mk H
    clear H
    go_wp2_with (first | ((with_reducible refine gate_callee (f := 15) rfl ?_); refine goesL_ (some 10) rfl rfl Try.func15 (by kernel_rfl) rfl #[.slice A0 l0.length c0] rfl (by (try simp only [List.map_toArray, List.map_cons, List.map_nil]); first | done | rfl | (simp only [List.length_drop, List.length_take]; rfl)) ?_; (with_reducible refine (plan_Right.calls k _ _ l0 true _ ?side1 ?side2 A4.out).mono ?_); (case side1 => repeat (first | exact (Kd.C_below HR0.out HB.out) | (with_reducible refine Kd.C_alloc ?_ _) | (with_reducible refine Kd.C_drewN ?_ _) | (with_reducible refine Kd.C_drew ?_))); (case side2 => exact HC0.out); rintro e w' ⟨rfl, ⟨nd, rfl⟩⟩; refine ⟨_, rfl, ?_⟩) | (go_at_call 15; (with_reducible refine (plan_Right.calls k _ _ l1 true _ ?side1 ?side2 A6.out).mono ?_); (case side1 => repeat (first | exact (Kd.C_below HR1.out (by repeat (first | (with_reducible first | exact HB.out | apply below_alloc | apply pw_below_drewN | apply below_drew1) | exact HB.out))) | (with_reducible refine Kd.C_alloc ?_ _) | (with_reducible refine Kd.C_drewN ?_ _) | (with_reducible refine Kd.C_drew ?_))); (case side2 => exact HC1.out); rintro e w' ⟨rfl, ⟨nd, rfl⟩⟩))
    go_meet
    case rel => exact ⟨_, (((l0.length : Int) != (l1.length : Int))), (by first | rfl | (simp; done) | (simp [*]; done)), H', ⟨by first | omega | exact Nat.le_refl _⟩, ⟨by repeat (first | (with_reducible first | exact HB.out | apply below_alloc | apply pw_below_drewN | apply below_drew1) | exact HB.out)⟩⟩
   ·replace c7 := Bool.eq_false_iff.mpr c7
    subst c7
    have H1 : (plan_Moves.j0 k l0 l1 true) = some (r1, r2) := by rw [if_neg (show ¬ (false = true) by decide)] at H; exact H
    clear H
    have H := H1
    clear H1
    have H' := Aside0.mk H
    clear H
    go_wp2_with (first | ((with_reducible refine gate_callee (f := 15) rfl ?_); refine goesL_ (some 10) rfl rfl Try.func15 (by kernel_rfl) rfl #[.slice A0 l0.length c0] rfl (by (try simp only [List.map_toArray, List.map_cons, List.map_nil]); first | done | rfl | (simp only [List.length_drop, List.length_take]; rfl)) ?_; (with_reducible refine (plan_Right.calls k _ _ l0 true _ ?side1 ?side2 A4.out).mono ?_); (case side1 => repeat (first | exact (Kd.C_below HR0.out HB.out) | (with_reducible refine Kd.C_alloc ?_ _) | (with_reducible refine Kd.C_drewN ?_ _) | (with_reducible refine Kd.C_drew ?_))); (case side2 => exact HC0.out); rintro e w' ⟨rfl, ⟨nd, rfl⟩⟩; refine ⟨_, rfl, ?_⟩) | (go_at_call 15; (with_reducible refine (plan_Right.calls k _ _ l1 false _ ?side1 ?side2 A6.out).mono ?_); (case side1 => repeat (first | exact (Kd.C_below HR1.out (by repeat (first | (with_reducible first | exact HB.out | apply below_alloc | apply pw_below_drewN | apply below_drew1) | exact HB.out))) | (with_reducible refine Kd.C_alloc ?_ _) | (with_reducible refine Kd.C_drewN ?_ _) | (with_reducible refine Kd.C_drew ?_))); (case side2 => exact HC1.out); rintro e w' ⟨rfl, ⟨nd, rfl⟩⟩))
    go_meet
    case rel => exact ⟨_, (true), (by first | rfl | (simp; done) | (simp [*]; done)), H', ⟨by first | omega | exact Nat.le_refl _⟩, ⟨by repeat (first | (with_reducible first | exact HB.out | apply below_alloc | apply pw_below_drewN | apply below_drew1) | exact HB.out)⟩⟩
  ·replace c5 := Bool.eq_false_iff.mpr c5
   subst c5
   have H1 : (plan_Moves.j0 k l0 l1 true) = some (r1, r2) := by rw [if_neg (show ¬ (false = true) by decide)] at H; exact H
   clear H
   have H := H1
   clear H1
   have H' := Aside0.mk H
   clear H
   go_wp2_with (first | ((with_reducible refine gate_callee (f := 15) rfl ?_); refine goesL_ (some 10) rfl rfl Try.func15 (by kernel_rfl) rfl #[.slice A0 l0.length c0] rfl (by (try simp only [List.map_toArray, List.map_cons, List.map_nil]); first | done | rfl | (simp only [List.length_drop, List.length_take]; rfl)) ?_; (with_reducible refine (plan_Right.calls k _ _ l0 false _ ?side1 ?side2 A4.out).mono ?_); (case side1 => repeat (first | exact (Kd.C_below HR0.out HB.out) | (with_reducible refine Kd.C_alloc ?_ _) | (with_reducible refine Kd.C_drewN ?_ _) | (with_reducible refine Kd.C_drew ?_))); (case side2 => exact HC0.out); rintro e w' ⟨rfl, ⟨nd, rfl⟩⟩; refine ⟨_, rfl, ?_⟩))
   go_meet
   case rel => exact ⟨_, (true), (by first | rfl | (simp; done) | (simp [*]; done)), H', ⟨by first | omega | exact Nat.le_refl _⟩, ⟨by repeat (first | (with_reducible first | exact HB.out | apply below_alloc | apply pw_below_drewN | apply below_drew1) | exact HB.out)⟩⟩
 case rest =>
  clear HC3
  try clear c1
  try clear p2
  try clear c5
  try clear c7
  obtain ⟨kq, x23_2, rfl, HA, HJ2, HB⟩ := hcut
  cases kq with
  | zero => exact absurd HA.out (by simp [plan_Moves.j0])
  | succ kj2 =>
   have H := HA.out
   clear HA
   simp only [plan_Moves.j0] at H
   by_cases c8 : x23_2 = true
   ·subst c8
    have H1 : (some (([] : List (S35)), 1)) = some (r1, r2) := by rw [if_pos rfl] at H; exact H
    clear H
    have H := H1
    clear H1
    simp only [Option.some.injEq, Prod.mk.injEq] at H
    obtain ⟨rfl, rfl⟩ := H
    go_wp2
    go_ret2
    exact ⟨_, by first | rfl | (simp [errW_none, errW_some] <;> rfl) | (simp [*, errW_none, errW_some] <;> rfl), by first | exact Kd.R_nil _ _ _ _ _ | exact Kd.N_nil _ _ _ _ _ | exact Kd.V_nil _ _ _ _ _ | exact Kd.Q_nil _ _ _ _ _ | exact Kd.S_nil _ _ _ _ _, by repeat (first | (with_reducible first | exact HB.out | apply below_alloc | apply pw_below_drewN | apply below_drew1) | exact HB.out)⟩
   ·replace c8 := Bool.eq_false_iff.mpr c8
    subst c8
    have H1 : (plan_Moves.l0 kj2 l1 ([] : List (S35)) l0 (l0.length : Int) 0) = some (r1, r2) := by rw [if_neg (show ¬ (false = true) by decide)] at H; exact H
    clear H
    have H := H1
    clear H1
    have H' := Aside0.mk H
    clear H
    go_wp2
    go_loopg [6, 26] kj2 (fun kq v6 v26 w' => ∃ (x6_2 : List (S35)) (x26_2 : Int), v26 = .int .i64 x26_2 ∧ Aside0 (plan_Moves.l0 kq l1 x6_2 l0 (l0.length : Int) x26_2 = some (r1, r2)) ∧ Aside0 (kq ≤ kj2) ∧ Aside0 (Kd.R k35 35 w' w.heap.size (fun _ => True) v6 x6_2) ∧ Aside0 (Below w.heap.size w w'))
    case atStart => exact ⟨(([] : List (S35))), (0), (by first | rfl | (simp; done) | (simp [*]; done)), H', ⟨Nat.le_refl _⟩, ⟨by first | exact Kd.R_nil _ _ _ _ _ | exact Kd.N_nil _ _ _ _ _ | exact Kd.V_nil _ _ _ _ _ | exact Kd.Q_nil _ _ _ _ _ | exact Kd.S_nil _ _ _ _ _⟩, ⟨by repeat (first | (with_reducible first | exact HB.out | apply below_alloc | apply pw_below_drewN | apply below_drew1) | exact HB.out)⟩⟩
    case round =>
     clear H'
     try clear c1
     try clear p2
     try clear c5
     try clear c7
     try clear c8
     try clear p2
     obtain ⟨x6_2, x26_2, rfl, HA, HK2, HO_6, HB⟩ := hrel
     cases gk with
     | zero => exact absurd HA.out (by simp [plan_Moves.l0])
     | succ k2 =>
      have H := HA.out
      clear HA
      simp only [plan_Moves.l0] at H
      by_cases c9 : x26_2 < (l0.length : Int)
      ·rw [if_pos c9] at H
       have c9b0 : decide (x26_2 < (l0.length : Int)) = true := decide_eq_true c9
       clear c9
       by_cases c10 : 0 ≤ x26_2
       ·rw [if_pos c10] at H
        have c10b0 : decide (0 ≤ x26_2) = true := decide_eq_true c10
        clear c10
        by_cases c11 : x26_2 < (l0.length : Int)
        ·rw [if_pos c11] at H
         have c11b0 : decide (x26_2 < (l0.length : Int)) = true := decide_eq_true c11
         clear c11
         by_cases c12 : x26_2 < (l1.length : Int)
         ·rw [if_pos c12] at H
          have c12b0 : decide (x26_2 < (l1.length : Int)) = true := decide_eq_true c12
          clear c12
          by_cases c13 : (rd l1 x26_2) = (rd l0 x26_2)
          ·rw [if_pos c13] at H
           have c13b0 : ((rd l1 x26_2) == (rd l0 x26_2)) = true := beq_iff_eq.mpr c13
           have c13b1 : ((rd l1 x26_2) != (rd l0 x26_2)) = false := bne_eq_false_iff_eq.mpr c13
           clear c13
           have H' := Aside0.mk H
           clear H
           have p104 : 0 ≤ (x26_2 : Int) := of_decide_eq_true (by first | (with_reducible assumption) | assumption)
           have q104 : x26_2 < (l0.length : Int) := of_decide_eq_true (by first | (with_reducible assumption) | assumption)
           obtain ⟨ad104, e104, hx104_0⟩ := Kd.at_int HR0.out x26_2 p104 q104
           cases e104
           replace hx104_0 := (HB.out.cell (World.block_lt_of_cell? w _ hx104_0)).trans hx104_0
           replace p104 := eq_true p104
           replace q104 := eq_true q104
           have p105 : 0 ≤ (x26_2 : Int) := of_decide_eq_true (by first | (with_reducible assumption) | assumption)
           have q105 : x26_2 < (l1.length : Int) := of_decide_eq_true (by first | (with_reducible assumption) | assumption)
           obtain ⟨ad105, e105, hx105_0⟩ := Kd.at_int HR1.out x26_2 p105 q105
           cases e105
           replace hx105_0 := (HB.out.cell (World.block_lt_of_cell? w _ hx105_0)).trans hx105_0
           replace p105 := eq_true p105
           replace q105 := eq_true q105
           go_wp2
           go_roundg k2
           case measure => have := HJ2.out; have := HK2.out; omega
           case rel => exact ⟨(x6_2), (wrap64 (x26_2 + 1)), (by first | rfl | (simp; done) | (simp [*]; done)), H', ⟨by have := HJ2.out; have := HK2.out; omega⟩, ⟨by (with_reducible repeat (first | apply Kd.R_alloc | apply Kd.R_drewN | apply Kd.R_drew)); exact HO_6.out⟩, ⟨by repeat (first | (with_reducible first | exact HB.out | apply below_alloc | apply pw_below_drewN | apply below_drew1) | exact HB.out)⟩⟩
          ·rw [if_neg c13] at H
           have c13b0 : ((rd l1 x26_2) == (rd l0 x26_2)) = false := beq_eq_false_iff_ne.mpr c13
           have c13b1 : ((rd l1 x26_2) != (rd l0 x26_2)) = true := bne_iff_ne.mpr c13
           by_cases c14 : x6_2.length < 5864062014805
           ·rw [if_pos c14] at H
            have LMc14 := Aside0.mk c14
            clear c14
            obtain ⟨y107, hy107⟩ : ∃ y_ : List (S35), y_ = (x6_2 ++ [(⟨x26_2, rd l0 x26_2, rd l1 x26_2⟩ : S35)]) := ⟨_, rfl⟩
            replace H : (plan_Moves.l0 k2 l1 y107 l0 (l0.length : Int) (wrap64 (x26_2 + 1))) = some (r1, r2) := by first | (rw [hy107]; with_reducible exact H) | (have H2_ := (Option.bind_some _ _).symm.trans H; rw [hy107]; with_reducible exact H2_) | (have H2_ := (Option.bind_some _ _).symm.trans H; with_reducible exact H2_) | with_reducible exact H | (rw [hy107]; exact H) | exact H
            have Ny107 := Aside0.mk hy107
            clear hy107
            have H' := Aside0.mk H
            clear H
            have p104 : 0 ≤ (x26_2 : Int) := of_decide_eq_true (by first | (with_reducible assumption) | assumption)
            have q104 : x26_2 < (l0.length : Int) := of_decide_eq_true (by first | (with_reducible assumption) | assumption)
            obtain ⟨ad104, e104, hx104_0⟩ := Kd.at_int HR0.out x26_2 p104 q104
            cases e104
            replace hx104_0 := (HB.out.cell (World.block_lt_of_cell? w _ hx104_0)).trans hx104_0
            replace p104 := eq_true p104
            replace q104 := eq_true q104
            have p105 : 0 ≤ (x26_2 : Int) := of_decide_eq_true (by first | (with_reducible assumption) | assumption)
            have q105 : x26_2 < (l1.length : Int) := of_decide_eq_true (by first | (with_reducible assumption) | assumption)
            obtain ⟨ad105, e105, hx105_0⟩ := Kd.at_int HR1.out x26_2 p105 q105
            cases e105
            replace hx105_0 := (HB.out.cell (World.block_lt_of_cell? w _ hx105_0)).trans hx105_0
            replace p105 := eq_true p105
            replace q105 := eq_true q105
            have p106 : 0 ≤ (x26_2 : Int) := of_decide_eq_true (by first | (with_reducible assumption) | assumption)
            have q106 : x26_2 < (l1.length : Int) := of_decide_eq_true (by first | (with_reducible assumption) | assumption)
            obtain ⟨ad106, e106, hx106_0⟩ := Kd.at_int HR1.out x26_2 p106 q106
            obtain rfl : ad105 = ad106 := (by injection e106)
            replace hx106_0 := (HB.out.cell (World.block_lt_of_cell? w _ hx106_0)).trans hx106_0
            replace p106 := eq_true p106
            replace q106 := eq_true q106
            go_wp2_with (first | ((with_reducible refine gate_builtin (b := .append) (xs := #[.tmp 37, .tmp 45]) rfl ?_); (try (refine gate_guard (by rfl) ?_; dsimp only)); at_builtin; refine Kd.R_append k35 (w0 := w) w.heap.size rfl (.tmp 37) (.tmp 45) 25 35 (.agg #[(.int .i64 0), (.int .i64 0), (.int .i64 0)]) 24 rfl Try.underlying25 info35 rfl (by decide) (by omega) u6 x6_2 (⟨x26_2, rd l0 x26_2, rd l1 x26_2⟩ : S35) [.int .i64 x26_2, .int .i64 (rd l0 x26_2), .int .i64 (rd l1 x26_2)] (fun _ => True) (fun _ => False) rfl rfl ?aP (fun _ hk => hk.elim) ?aF ?aO ?aB ?aS ?aL ?_; (case aP => exact k35_mkM _ _ _ (⟨x26_2, rd l0 x26_2, rd l1 x26_2⟩ : S35)); (case aB => exact (by repeat (first | (with_reducible first | exact HB.out | apply below_alloc | apply pw_below_drewN | apply below_drew1) | exact HB.out))); (case aF => exact (fun _ _ => trivial)); (case aO => exact (by (with_reducible repeat (first | apply Kd.R_alloc | apply Kd.R_drewN | apply Kd.R_drew)); exact HO_6.out)); (case aS => exact (below_size (by repeat (first | (with_reducible first | exact HB.out | apply below_alloc | apply pw_below_drewN | apply below_drew1) | exact HB.out)))); (case aL => have := LMc14.out; omega); intro v108 w15 ho hb hg hat; rw [← Ny107.out] at ho; have n0_ := Aside0.mk (hb); have n1_ := Aside0.mk (ho); clear HB; clear HO_6; have HB := n0_; have HO109 := n1_; clear n0_ n1_; clear ho hb hg hat))
            go_roundg k2
            case measure => have := HJ2.out; have := HK2.out; omega
            case rel => exact ⟨(y107), (wrap64 (x26_2 + 1)), (by first | rfl | (simp; done) | (simp [*]; done)), H', ⟨by have := HJ2.out; have := HK2.out; omega⟩, ⟨by (with_reducible repeat (first | apply Kd.R_alloc | apply Kd.R_drewN | apply Kd.R_drew)); exact HO109.out⟩, ⟨by repeat (first | (with_reducible first | exact HB.out | apply below_alloc | apply pw_below_drewN | apply below_drew1) | exact HB.out)⟩⟩
           ·rw [if_neg c14] at H
            exact absurd H (by simp)
         ·rw [if_neg c12] at H
          exact absurd H (by simp)
        ·rw [if_neg c11] at H
         exact absurd H (by simp)
       ·rw [if_neg c10] at H
        exact absurd H (by simp)
      ·rw [if_neg c9] at H
       have c9b0 : decide (x26_2 < (l0.length : Int)) = false := decide_eq_false c9
       clear c9
       simp only [Option.some.injEq, Prod.mk.injEq] at H
       obtain ⟨rfl, rfl⟩ := H
       go_wp2
       go_ret2
       exact ⟨_, by first | rfl | (simp [errW_none, errW_some] <;> rfl) | (simp [*, errW_none, errW_some] <;> rfl), by (with_reducible repeat (first | apply Kd.R_alloc | apply Kd.R_drewN | apply Kd.R_drew)); exact HO_6.out, by repeat (first | (with_reducible first | exact HB.out | apply below_alloc | apply pw_below_drewN | apply below_drew1) | exact HB.out)⟩

/-! ### plan_Apply: function 17 -/
mutual
def plan_Apply.l0 : Nat → List Int → List (S35) → Int → Int → Option (List Int × Int)
 | 0, _, _, _, _ => none
 | k + 1, x6, x15, x16, x17 => if x17 < x16 then (if 0 ≤ x17 then (if x17 < (x15.length : Int) then (if ((rd_T35 x15 x17).f0) < 0 then (plan_Apply.j1 k x6 x15 x16 x17 true ((rd_T35 x15 x17).f0) ((rd_T35 x15 x17).f1) ((rd_T35 x15 x17).f2)) else (plan_Apply.j1 k x6 x15 x16 x17 (decide (((rd_T35 x15 x17).f0) ≥ (x6.length : Int))) ((rd_T35 x15 x17).f0) ((rd_T35 x15 x17).f1) ((rd_T35 x15 x17).f2))) else (none)) else (none)) else (some (x6, 0))
def plan_Apply.j1 : Nat → List Int → List (S35) → Int → Int → Bool → Int → Int → Int → Option (List Int × Int)
 | 0, _, _, _, _, _, _, _, _ => none
 | k + 1, x6, x15, x16, x17, x21, x119000, x119001, x119002 => if x21 = true then (some (([] : List Int), 4)) else (if 0 ≤ x119000 then (if x119000 < (x6.length : Int) then (if (rd x6 x119000) = x119001 then (if x119002 < 1 then (some (([] : List Int), 1)) else (if x119002 > 99 then (some (([] : List Int), 1)) else (plan_Apply.l0 k (x6.set (x119000 : Int).toNat x119002) x15 x16 (wrap64 (x17 + 1))))) else (some (([] : List Int), 6))) else (none)) else (none))
end
def plan_Apply.f (k : Nat) (l0 : List Int) (l1 : List (S35)) : Option (List Int × Int) := (plan_Right.f k l0).bind fun t110 => (if t110 = true then ((some (([] : List Int) : List Int)).bind fun y111 => (if y111.length + l0.length < 17592186044416 then (plan_Apply.l0 k (y111 ++ l0) l1 (l1.length : Int) 0) else (none))) else (some (([] : List Int), 1)))
theorem plan_Apply.mono_l : ∀ k, (∀ y0 y1 y2 y3, LeO (plan_Apply.l0 k y0 y1 y2 y3) (plan_Apply.l0 (k + 1) y0 y1 y2 y3)) ∧ (∀ y0 y1 y2 y3 y4 y5 y6 y7, LeO (plan_Apply.j1 k y0 y1 y2 y3 y4 y5 y6 y7) (plan_Apply.j1 (k + 1) y0 y1 y2 y3 y4 y5 y6 y7))
 | 0 => ⟨fun _ _ _ _ r h => by simp [plan_Apply.l0] at h, fun _ _ _ _ _ _ _ _ r h => by simp [plan_Apply.j1] at h⟩
 | k + 1 => by
  obtain ⟨ih0, ih1⟩ := plan_Apply.mono_l k
  refine ⟨?_, ?_⟩
  ·intro y0 y1 y2 y3
   unfold plan_Apply.l0
   repeat' first
   | (with_reducible exact ih0 _ _ _ _)
   | (with_reducible exact ih1 _ _ _ _ _ _ _ _)
   | (with_reducible exact plan_Right.mono _ _)
   | (with_reducible exact LeO.refl _)
   | (with_reducible exact LeO.none _)
   | (with_reducible refine LeO.ite ?_ ?_)
   | (with_reducible refine LeO.bind ?_ (fun _ => ?_))
   | exact ih0 _ _ _ _
   | exact ih1 _ _ _ _ _ _ _ _
   | exact plan_Right.mono _ _
   | exact LeO.none _
   | refine LeO.ite ?_ ?_
   | refine LeO.bind ?_ (fun _ => ?_)
  ·intro y0 y1 y2 y3 y4 y5 y6 y7
   unfold plan_Apply.j1
   repeat' first
   | (with_reducible exact ih0 _ _ _ _)
   | (with_reducible exact ih1 _ _ _ _ _ _ _ _)
   | (with_reducible exact plan_Right.mono _ _)
   | (with_reducible exact LeO.refl _)
   | (with_reducible exact LeO.none _)
   | (with_reducible refine LeO.ite ?_ ?_)
   | (with_reducible refine LeO.bind ?_ (fun _ => ?_))
   | exact ih0 _ _ _ _
   | exact ih1 _ _ _ _ _ _ _ _
   | exact plan_Right.mono _ _
   | exact LeO.none _
   | refine LeO.ite ?_ ?_
   | refine LeO.bind ?_ (fun _ => ?_)
theorem plan_Apply.mono : ∀ a0 a1 k, LeO (plan_Apply.f k a0 a1) (plan_Apply.f (k + 1) a0 a1) := by
 intro a0 a1 k
 obtain ⟨ih0, ih1⟩ := plan_Apply.mono_l k
 unfold plan_Apply.f
 repeat' first
   | (with_reducible exact ih0 _ _ _ _)
   | (with_reducible exact ih1 _ _ _ _ _ _ _ _)
   | (with_reducible exact plan_Right.mono _ _)
   | (with_reducible exact LeO.refl _)
   | (with_reducible exact LeO.none _)
   | (with_reducible refine LeO.ite ?_ ?_)
   | (with_reducible refine LeO.bind ?_ (fun _ => ?_))
   | exact ih0 _ _ _ _
   | exact ih1 _ _ _ _ _ _ _ _
   | exact plan_Right.mono _ _
   | exact LeO.none _
   | refine LeO.ite ?_ ?_
   | refine LeO.bind ?_ (fun _ => ?_)
set_option maxHeartbeats 8000000 in
set_option maxRecDepth 100000 in
theorem plan_Apply.calls (k : Nat) (A0 : Option Addr) (c0 : Nat) (l0 : List Int) (A1 : Option Addr) (c1 : Nat) (l1 : List (S35)) (r1 : List Int) (r2 : Int) (w : World) (hr0 : Kd.C (Kd.int .i64) w A0 l0.length l0) (hc0 : l0.length ≤ c0) (hr1 : Kd.C k35 w A1 l1.length l1) (hc1 : l1.length ≤ c1) (h : plan_Apply.f k l0 l1 = some (r1, r2)) :
  Calls Try.prog 17 #[.slice A0 l0.length c0, .slice A1 l1.length c1] w fun e w' => ∃ v0_ : Value, e = .returned (.tuple #[v0_, .int .i64 r2]) ∧ Kd.R (Kd.int .i64) 3 w' w.heap.size (fun _ => True) v0_ r1 ∧ Below w.heap.size w w' := by
 have hu35 := Try.underlying35
 have HR0 := Aside0.mk hr0
 have HC0 := Aside0.mk hc0
 clear hr0 hc0
 have HR1 := Aside0.mk hr1
 have HC1 := Aside0.mk hc1
 clear hr1 hc1
 have HB := Aside0.mk (Below.refl w.heap.size w)
 have H : ((plan_Right.f k l0).bind fun t110 => (if t110 = true then ((some (([] : List Int) : List Int)).bind fun y111 => (if y111.length + l0.length < 17592186044416 then (plan_Apply.l0 k (y111 ++ l0) l1 (l1.length : Int) 0) else (none))) else (some (([] : List Int), 1)))) = some (r1, r2) := h
 clear h
 replace H := Option.bind_eq_some_iff.mp H
 obtain ⟨t110, A30, H⟩ := H
 replace H : (if t110 = true then ((some (([] : List Int) : List Int)).bind fun y111 => (if y111.length + l0.length < 17592186044416 then (plan_Apply.l0 k (y111 ++ l0) l1 (l1.length : Int) 0) else (none))) else (some (([] : List Int), 1))) = some (r1, r2) := H
 have A3 := Aside0.mk A30
 clear A30
 by_cases c4 : t110 = true
 ·subst c4
  have H1 : ((some (([] : List Int) : List Int)).bind fun y111 => (if y111.length + l0.length < 17592186044416 then (plan_Apply.l0 k (y111 ++ l0) l1 (l1.length : Int) 0) else (none))) = some (r1, r2) := by rw [if_pos rfl] at H; exact H
  clear H
  have H := H1
  clear H1
  obtain ⟨y111, hy111⟩ : ∃ y_ : List Int, y_ = (([] : List Int)) := ⟨_, rfl⟩
  replace H : (if y111.length + l0.length < 17592186044416 then (plan_Apply.l0 k (y111 ++ l0) l1 (l1.length : Int) 0) else (none)) = some (r1, r2) := by first | (rw [hy111]; with_reducible exact H) | (have H2_ := (Option.bind_some _ _).symm.trans H; rw [hy111]; with_reducible exact H2_) | (have H2_ := (Option.bind_some _ _).symm.trans H; with_reducible exact H2_) | with_reducible exact H | (rw [hy111]; exact H) | exact H
  have Ny111 := Aside0.mk hy111
  clear hy111
  by_cases c5 : y111.length + l0.length < 17592186044416
  ·rw [if_pos c5] at H
   have LMc5 := Aside0.mk c5
   clear c5
   obtain ⟨y114, hy114⟩ : ∃ y_ : List Int, y_ = (y111 ++ l0) := ⟨_, rfl⟩
   replace H : (plan_Apply.l0 k y114 l1 (l1.length : Int) 0) = some (r1, r2) := by first | (rw [hy114]; with_reducible exact H) | (have H2_ := (Option.bind_some _ _).symm.trans H; rw [hy114]; with_reducible exact H2_) | (have H2_ := (Option.bind_some _ _).symm.trans H; with_reducible exact H2_) | with_reducible exact H | (rw [hy114]; exact H) | exact H
   have Ny114 := Aside0.mk hy114
   clear hy114
   have H' := Aside0.mk H
   clear H
   go_enter Try.func17, Try.ntmps17
   go_wp2_with (first | (go_at_call 15; (with_reducible refine (plan_Right.calls k _ _ l0 true _ ?side1 ?side2 A3.out).mono ?_); (case side1 => repeat (first | exact HR0.out | (with_reducible refine Kd.C_alloc ?_ _) | (with_reducible refine Kd.C_drewN ?_ _) | (with_reducible refine Kd.C_drew ?_))); (case side2 => exact HC0.out); rintro e w' ⟨rfl, ⟨nd, rfl⟩⟩; (try first | exact ⟨rfl, _, World.drewN_drewN _ _ _⟩ | exact ⟨rfl, _, Eq.trans (World.drewN_drewN _ _ _) (congrArg (World.drewN _) (Nat.add_assoc _ _ _))⟩)) | ((with_reducible refine gate_dst (N := 12) rfl ?_); (try (refine gate_guard (by rfl) ?_; dsimp only)); refine Kd.R_lit (Kd.int .i64) _ 3 ?hg (N := 12) ?hd (xs := ([] : List Int)) (inner := []) (ok := fun _ => True) (okp := fun _ => True) ?hr ?hp (fun _ hk => hk) trivial (Below.refl _ _) (Nat.le_refl _) (by simp) ?_; (case hd => rfl); (case hg => rfl); (case hr => first | (go_simp; done) | (go_simp; rfl)); (case hp => exact (Reps.none _ _)); intro v112 w6 ho7 hb hg_ hnew_; clear hg_ hnew_; (first | rw [← Ny111.out] at ho7 | (simp only [Int.reduceToNat] at ho7; rw [← Ny111.out] at ho7)); have n0_ := Aside0.mk (Kd.R_lower ho7 (below_size (by repeat (first | (with_reducible first | exact HB.out | apply below_alloc | apply pw_below_drewN | apply below_drew1) | exact HB.out)))); have n1_ := Aside0.mk (below_step (by repeat (first | (with_reducible first | exact HB.out | apply below_alloc | apply pw_below_drewN | apply below_drew1) | exact HB.out)) hb); clear HB; have HO113 := n0_; have HB := n1_; clear n0_ n1_; clear hb ho7) | ((with_reducible refine gate_builtin (b := .append) (xs := #[.tmp 12, .tmp 13]) rfl ?_); (try (refine gate_guard (by rfl) ?_; dsimp only)); at_builtin; refine Kd.R_append_rows (Kd.int .i64) (w0 := w) w.heap.size rfl (.tmp 12) (.tmp 13) 22 3 (.int .i64 0) 8 rfl Try.underlying22 info3 rfl (by decide) (by omega) v112 y111 l0 _ _ _ (fun _ => True) (fun _ => False) rfl rfl ?aO ?aR (fun _ _ h => h) (fun _ h => h.elim) ?aF ?aB ?aS ?aL ?_; (case aR => repeat (first | exact (Kd.C_below HR0.out HB.out) | (with_reducible refine Kd.C_alloc ?_ _) | (with_reducible refine Kd.C_drewN ?_ _) | (with_reducible refine Kd.C_drew ?_))); (case aB => exact (by repeat (first | (with_reducible first | exact HB.out | apply below_alloc | apply pw_below_drewN | apply below_drew1) | exact HB.out))); (case aF => exact (fun _ _ => trivial)); (case aO => exact (by (with_reducible repeat (first | apply Kd.R_alloc | apply Kd.R_drewN | apply Kd.R_drew)); exact HO113.out)); (case aS => exact (below_size (by repeat (first | (with_reducible first | exact HB.out | apply below_alloc | apply pw_below_drewN | apply below_drew1) | exact HB.out)))); (case aL => have := LMc5.out; omega); intro v115 w8 ho hb hg hat; rw [← Ny114.out] at ho; have n0_ := Aside0.mk (hb); have n1_ := Aside0.mk (ho); clear HB; clear HO113; have HB := n0_; have HO116 := n1_; clear n0_ n1_; clear ho hb hg hat))
   repeat (go_quiet (first | (go_at_call 15; (with_reducible refine (plan_Right.calls k _ _ l0 true _ ?side1 ?side2 A3.out).mono ?_); (case side1 => repeat (first | exact HR0.out | (with_reducible refine Kd.C_alloc ?_ _) | (with_reducible refine Kd.C_drewN ?_ _) | (with_reducible refine Kd.C_drew ?_))); (case side2 => exact HC0.out); rintro e w' ⟨rfl, ⟨nd, rfl⟩⟩; (try first | exact ⟨rfl, _, World.drewN_drewN _ _ _⟩ | exact ⟨rfl, _, Eq.trans (World.drewN_drewN _ _ _) (congrArg (World.drewN _) (Nat.add_assoc _ _ _))⟩)) | ((with_reducible refine gate_dst (N := 12) rfl ?_); (try (refine gate_guard (by rfl) ?_; dsimp only)); refine Kd.R_lit (Kd.int .i64) _ 3 ?hg (N := 12) ?hd (xs := ([] : List Int)) (inner := []) (ok := fun _ => True) (okp := fun _ => True) ?hr ?hp (fun _ hk => hk) trivial (Below.refl _ _) (Nat.le_refl _) (by simp) ?_; (case hd => rfl); (case hg => rfl); (case hr => first | (go_simp; done) | (go_simp; rfl)); (case hp => exact (Reps.none _ _)); intro v112 w6 ho7 hb hg_ hnew_; clear hg_ hnew_; (first | rw [← Ny111.out] at ho7 | (simp only [Int.reduceToNat] at ho7; rw [← Ny111.out] at ho7)); have n0_ := Aside0.mk (Kd.R_lower ho7 (below_size (by repeat (first | (with_reducible first | exact HB.out | apply below_alloc | apply pw_below_drewN | apply below_drew1) | exact HB.out)))); have n1_ := Aside0.mk (below_step (by repeat (first | (with_reducible first | exact HB.out | apply below_alloc | apply pw_below_drewN | apply below_drew1) | exact HB.out)) hb); clear HB; have HO113 := n0_; have HB := n1_; clear n0_ n1_; clear hb ho7) | ((with_reducible refine gate_builtin (b := .append) (xs := #[.tmp 12, .tmp 13]) rfl ?_); (try (refine gate_guard (by rfl) ?_; dsimp only)); at_builtin; refine Kd.R_append_rows (Kd.int .i64) (w0 := w) w.heap.size rfl (.tmp 12) (.tmp 13) 22 3 (.int .i64 0) 8 rfl Try.underlying22 info3 rfl (by decide) (by omega) v112 y111 l0 _ _ _ (fun _ => True) (fun _ => False) rfl rfl ?aO ?aR (fun _ _ h => h) (fun _ h => h.elim) ?aF ?aB ?aS ?aL ?_; (case aR => repeat (first | exact (Kd.C_below HR0.out HB.out) | (with_reducible refine Kd.C_alloc ?_ _) | (with_reducible refine Kd.C_drewN ?_ _) | (with_reducible refine Kd.C_drew ?_))); (case aB => exact (by repeat (first | (with_reducible first | exact HB.out | apply below_alloc | apply pw_below_drewN | apply below_drew1) | exact HB.out))); (case aF => exact (fun _ _ => trivial)); (case aO => exact (by (with_reducible repeat (first | apply Kd.R_alloc | apply Kd.R_drewN | apply Kd.R_drew)); exact HO113.out)); (case aS => exact (below_size (by repeat (first | (with_reducible first | exact HB.out | apply below_alloc | apply pw_below_drewN | apply below_drew1) | exact HB.out)))); (case aL => have := LMc5.out; omega); intro v115 w8 ho hb hg hat; rw [← Ny114.out] at ho; have n0_ := Aside0.mk (hb); have n1_ := Aside0.mk (ho); clear HB; clear HO113; have HB := n0_; have HO116 := n1_; clear n0_ n1_; clear ho hb hg hat)); try go_wp2_with (first | (go_at_call 15; (with_reducible refine (plan_Right.calls k _ _ l0 true _ ?side1 ?side2 A3.out).mono ?_); (case side1 => repeat (first | exact HR0.out | (with_reducible refine Kd.C_alloc ?_ _) | (with_reducible refine Kd.C_drewN ?_ _) | (with_reducible refine Kd.C_drew ?_))); (case side2 => exact HC0.out); rintro e w' ⟨rfl, ⟨nd, rfl⟩⟩; (try first | exact ⟨rfl, _, World.drewN_drewN _ _ _⟩ | exact ⟨rfl, _, Eq.trans (World.drewN_drewN _ _ _) (congrArg (World.drewN _) (Nat.add_assoc _ _ _))⟩)) | ((with_reducible refine gate_dst (N := 12) rfl ?_); (try (refine gate_guard (by rfl) ?_; dsimp only)); refine Kd.R_lit (Kd.int .i64) _ 3 ?hg (N := 12) ?hd (xs := ([] : List Int)) (inner := []) (ok := fun _ => True) (okp := fun _ => True) ?hr ?hp (fun _ hk => hk) trivial (Below.refl _ _) (Nat.le_refl _) (by simp) ?_; (case hd => rfl); (case hg => rfl); (case hr => first | (go_simp; done) | (go_simp; rfl)); (case hp => exact (Reps.none _ _)); intro v112 w6 ho7 hb hg_ hnew_; clear hg_ hnew_; (first | rw [← Ny111.out] at ho7 | (simp only [Int.reduceToNat] at ho7; rw [← Ny111.out] at ho7)); have n0_ := Aside0.mk (Kd.R_lower ho7 (below_size (by repeat (first | (with_reducible first | exact HB.out | apply below_alloc | apply pw_below_drewN | apply below_drew1) | exact HB.out)))); have n1_ := Aside0.mk (below_step (by repeat (first | (with_reducible first | exact HB.out | apply below_alloc | apply pw_below_drewN | apply below_drew1) | exact HB.out)) hb); clear HB; have HO113 := n0_; have HB := n1_; clear n0_ n1_; clear hb ho7) | ((with_reducible refine gate_builtin (b := .append) (xs := #[.tmp 12, .tmp 13]) rfl ?_); (try (refine gate_guard (by rfl) ?_; dsimp only)); at_builtin; refine Kd.R_append_rows (Kd.int .i64) (w0 := w) w.heap.size rfl (.tmp 12) (.tmp 13) 22 3 (.int .i64 0) 8 rfl Try.underlying22 info3 rfl (by decide) (by omega) v112 y111 l0 _ _ _ (fun _ => True) (fun _ => False) rfl rfl ?aO ?aR (fun _ _ h => h) (fun _ h => h.elim) ?aF ?aB ?aS ?aL ?_; (case aR => repeat (first | exact (Kd.C_below HR0.out HB.out) | (with_reducible refine Kd.C_alloc ?_ _) | (with_reducible refine Kd.C_drewN ?_ _) | (with_reducible refine Kd.C_drew ?_))); (case aB => exact (by repeat (first | (with_reducible first | exact HB.out | apply below_alloc | apply pw_below_drewN | apply below_drew1) | exact HB.out))); (case aF => exact (fun _ _ => trivial)); (case aO => exact (by (with_reducible repeat (first | apply Kd.R_alloc | apply Kd.R_drewN | apply Kd.R_drew)); exact HO113.out)); (case aS => exact (below_size (by repeat (first | (with_reducible first | exact HB.out | apply below_alloc | apply pw_below_drewN | apply below_drew1) | exact HB.out)))); (case aL => have := LMc5.out; omega); intro v115 w8 ho hb hg hat; rw [← Ny114.out] at ho; have n0_ := Aside0.mk (hb); have n1_ := Aside0.mk (ho); clear HB; clear HO113; have HB := n0_; have HO116 := n1_; clear n0_ n1_; clear ho hb hg hat)))
   go_loopg [17] k (fun kq v17 w' => ∃ (x6_1 : List Int) (x17_1 : Int), v17 = .int .i64 x17_1 ∧ Aside0 (plan_Apply.l0 kq x6_1 l1 (l1.length : Int) x17_1 = some (r1, r2)) ∧ Aside0 (kq ≤ k) ∧ Aside0 (Kd.R (Kd.int .i64) 3 w' w.heap.size (fun _ => True) v115 x6_1) ∧ Aside0 (Below w.heap.size w w'))
   case atStart => exact ⟨(y114), (0), (by first | rfl | (simp; done) | (simp [*]; done)), H', ⟨Nat.le_refl _⟩, ⟨by (with_reducible repeat (first | apply Kd.R_alloc | apply Kd.R_drewN | apply Kd.R_drew)); exact HO116.out⟩, ⟨by repeat (first | (with_reducible first | exact HB.out | apply below_alloc | apply pw_below_drewN | apply below_drew1) | exact HB.out)⟩⟩
   case round =>
    clear H'
    try clear c1
    try clear p2
    try clear c4
    try clear c5
    obtain ⟨x6_1, x17_1, rfl, HA, HK1, HO_6, HB⟩ := hrel
    cases gk with
    | zero => exact absurd HA.out (by simp [plan_Apply.l0])
    | succ k1 =>
     have H := HA.out
     clear HA
     simp only [plan_Apply.l0] at H
     by_cases c9 : x17_1 < (l1.length : Int)
     ·rw [if_pos c9] at H
      have c9b0 : decide (x17_1 < (l1.length : Int)) = true := decide_eq_true c9
      clear c9
      by_cases c10 : 0 ≤ x17_1
      ·rw [if_pos c10] at H
       have c10b0 : decide (0 ≤ x17_1) = true := decide_eq_true c10
       clear c10
       by_cases c11 : x17_1 < (l1.length : Int)
       ·rw [if_pos c11] at H
        have c11b0 : decide (x17_1 < (l1.length : Int)) = true := decide_eq_true c11
        clear c11
        have HC12 := Aside0.mk H
        clear H
        have p117 : 0 ≤ (x17_1 : Int) := of_decide_eq_true (by first | (with_reducible assumption) | assumption)
        have q117 : x17_1 < (l1.length : Int) := of_decide_eq_true (by first | (with_reducible assumption) | assumption)
        obtain ⟨ad117, e117, hx117_0, hx117_1, hx117_2⟩ := at_T35 HR1.out x17_1 p117 q117
        cases e117
        replace hx117_0 := (HB.out.cell (World.block_lt_of_cell? w _ hx117_0)).trans hx117_0
        replace hx117_1 := (HB.out.cell (World.block_lt_of_cell? w _ hx117_1)).trans hx117_1
        replace hx117_2 := (HB.out.cell (World.block_lt_of_cell? w _ hx117_2)).trans hx117_2
        replace p117 := eq_true p117
        replace q117 := eq_true q117
        go_upto_region 7 with (first | ((with_reducible refine gate_dst (N := 8) rfl ?_); (try (refine gate_guard (by rfl) ?_; dsimp only)); refine box_event ?hg (N := 8) ?hd (cs := #[.int .i64 0, .int .i64 0, .int .i64 0]) (t := 35) ?hr ?_; (case hd => rfl); (case hg => rfl); (case hr => first | (go_simp; done) | (go_simp; rfl)); intro gb118 hg w13 hbox hb; have n0_ := Aside0.mk (Kd.R_below (by (with_reducible repeat (first | apply Kd.R_alloc | apply Kd.R_drewN | apply Kd.R_drew)); exact HO_6.out) hb); have n1_ := Aside0.mk (below_step (by repeat (first | (with_reducible first | exact HB.out | apply below_alloc | apply pw_below_drewN | apply below_drew1) | exact HB.out)) hb); have n2_ := Aside0.mk (hbox); have n3_ := Aside0.mk ((by rw [hg]; exact (below_size (by repeat (first | (with_reducible first | exact HB.out | apply below_alloc | apply pw_below_drewN | apply below_drew1) | exact HB.out))) : w.heap.size ≤ gb118)); have n4_ := Aside0.mk ((by rw [hg]; exact (below_size (by repeat (first | (with_reducible first | exact HB.out | apply below_alloc | apply pw_below_drewN | apply below_drew1) | exact HB.out))) : w.heap.size ≤ gb118)); clear HO_6; clear HB; have HO_6 := n0_; have HB := n1_; have BK118 := n2_; have GW118 := n3_; have GE118 := n4_; clear n0_ n1_ n2_ n3_ n4_; clear hb hbox hg; have hcz14_0 : w13.cell? ⟨gb118, 0, none⟩ = some (.int .i64 0) := (blk_cell BK118.out 0).trans rfl; have hcz14_1 : w13.cell? ⟨gb118, 1, none⟩ = some (.int .i64 0) := (blk_cell BK118.out 1).trans rfl; have hcz14_2 : w13.cell? ⟨gb118, 2, none⟩ = some (.int .i64 0) := (blk_cell BK118.out 2).trans rfl; have hfz14_0 := blk_frozen BK118.out 0; have hfz14_1 := blk_frozen BK118.out 1; have hfz14_2 := blk_frozen BK118.out 2))
        repeat (go_quiet (first | ((with_reducible refine gate_dst (N := 8) rfl ?_); (try (refine gate_guard (by rfl) ?_; dsimp only)); refine box_event ?hg (N := 8) ?hd (cs := #[.int .i64 0, .int .i64 0, .int .i64 0]) (t := 35) ?hr ?_; (case hd => rfl); (case hg => rfl); (case hr => first | (go_simp; done) | (go_simp; rfl)); intro gb118 hg w13 hbox hb; have n0_ := Aside0.mk (Kd.R_below (by (with_reducible repeat (first | apply Kd.R_alloc | apply Kd.R_drewN | apply Kd.R_drew)); exact HO_6.out) hb); have n1_ := Aside0.mk (below_step (by repeat (first | (with_reducible first | exact HB.out | apply below_alloc | apply pw_below_drewN | apply below_drew1) | exact HB.out)) hb); have n2_ := Aside0.mk (hbox); have n3_ := Aside0.mk ((by rw [hg]; exact (below_size (by repeat (first | (with_reducible first | exact HB.out | apply below_alloc | apply pw_below_drewN | apply below_drew1) | exact HB.out))) : w.heap.size ≤ gb118)); have n4_ := Aside0.mk ((by rw [hg]; exact (below_size (by repeat (first | (with_reducible first | exact HB.out | apply below_alloc | apply pw_below_drewN | apply below_drew1) | exact HB.out))) : w.heap.size ≤ gb118)); clear HO_6; clear HB; have HO_6 := n0_; have HB := n1_; have BK118 := n2_; have GW118 := n3_; have GE118 := n4_; clear n0_ n1_ n2_ n3_ n4_; clear hb hbox hg; have hcz14_0 : w13.cell? ⟨gb118, 0, none⟩ = some (.int .i64 0) := (blk_cell BK118.out 0).trans rfl; have hcz14_1 : w13.cell? ⟨gb118, 1, none⟩ = some (.int .i64 0) := (blk_cell BK118.out 1).trans rfl; have hcz14_2 : w13.cell? ⟨gb118, 2, none⟩ = some (.int .i64 0) := (blk_cell BK118.out 2).trans rfl; have hfz14_0 := blk_frozen BK118.out 0; have hfz14_1 := blk_frozen BK118.out 1; have hfz14_2 := blk_frozen BK118.out 2)); go_upto_region 7 with (first | ((with_reducible refine gate_dst (N := 8) rfl ?_); (try (refine gate_guard (by rfl) ?_; dsimp only)); refine box_event ?hg (N := 8) ?hd (cs := #[.int .i64 0, .int .i64 0, .int .i64 0]) (t := 35) ?hr ?_; (case hd => rfl); (case hg => rfl); (case hr => first | (go_simp; done) | (go_simp; rfl)); intro gb118 hg w13 hbox hb; have n0_ := Aside0.mk (Kd.R_below (by (with_reducible repeat (first | apply Kd.R_alloc | apply Kd.R_drewN | apply Kd.R_drew)); exact HO_6.out) hb); have n1_ := Aside0.mk (below_step (by repeat (first | (with_reducible first | exact HB.out | apply below_alloc | apply pw_below_drewN | apply below_drew1) | exact HB.out)) hb); have n2_ := Aside0.mk (hbox); have n3_ := Aside0.mk ((by rw [hg]; exact (below_size (by repeat (first | (with_reducible first | exact HB.out | apply below_alloc | apply pw_below_drewN | apply below_drew1) | exact HB.out))) : w.heap.size ≤ gb118)); have n4_ := Aside0.mk ((by rw [hg]; exact (below_size (by repeat (first | (with_reducible first | exact HB.out | apply below_alloc | apply pw_below_drewN | apply below_drew1) | exact HB.out))) : w.heap.size ≤ gb118)); clear HO_6; clear HB; have HO_6 := n0_; have HB := n1_; have BK118 := n2_; have GW118 := n3_; have GE118 := n4_; clear n0_ n1_ n2_ n3_ n4_; clear hb hbox hg; have hcz14_0 : w13.cell? ⟨gb118, 0, none⟩ = some (.int .i64 0) := (blk_cell BK118.out 0).trans rfl; have hcz14_1 : w13.cell? ⟨gb118, 1, none⟩ = some (.int .i64 0) := (blk_cell BK118.out 1).trans rfl; have hcz14_2 : w13.cell? ⟨gb118, 2, none⟩ = some (.int .i64 0) := (blk_cell BK118.out 2).trans rfl; have hfz14_0 := blk_frozen BK118.out 0; have hfz14_1 := blk_frozen BK118.out 1; have hfz14_2 := blk_frozen BK118.out 2)))
        (try simp only [Act.put, List.setIfInBounds_toArray, List.set_cons_zero, List.set_cons_succ])
        go_cut [21] (fun v21 wc => ∃ (kq : Nat) (x21_11 : Bool), v21 = .bool x21_11 ∧ Aside0 (plan_Apply.j1 kq x6_1 l1 (l1.length : Int) x17_1 x21_11 ((rd_T35 l1 x17_1).f0) ((rd_T35 l1 x17_1).f1) ((rd_T35 l1 x17_1).f2) = some (r1, r2)) ∧ Aside0 (kq ≤ k1) ∧ Aside0 (Kd.R (Kd.int .i64) 3 wc w.heap.size (fun _ => True) v115 x6_1) ∧ Aside0 (wc.heap[gb118]? = some (.cells #[.int .i64 ((rd_T35 l1 x17_1).f0), .int .i64 ((rd_T35 l1 x17_1).f1), .int .i64 ((rd_T35 l1 x17_1).f2)] 35 (0, 0))) ∧ Aside0 (Below w.heap.size w wc))
        case first =>
         have H := HC12.out
         clear HC12
         by_cases c15 : ((rd_T35 l1 x17_1).f0) < 0
         ·rw [if_pos c15] at H
          have c15b0 : decide (((rd_T35 l1 x17_1).f0) < 0) = true := decide_eq_true c15
          clear c15
          (first | rw [c15b0] | (simp only [i64_w, i32_w]; rw [c15b0]) | skip)
          have H' := Aside0.mk H
          clear H
          have hcz16_0 : w13.cell? ⟨gb118, 0, none⟩ = some (.int .i64 0) := (blk_cell BK118.out 0).trans rfl
          have hcz16_1 : w13.cell? ⟨gb118, 1, none⟩ = some (.int .i64 0) := (blk_cell BK118.out 1).trans rfl
          have hcz16_2 : w13.cell? ⟨gb118, 2, none⟩ = some (.int .i64 0) := (blk_cell BK118.out 2).trans rfl
          have hfz16_0 := blk_frozen BK118.out 0
          have hfz16_1 := blk_frozen BK118.out 1
          have hfz16_2 := blk_frozen BK118.out 2
          go_wp2
          repeat (go_quiet (fail); try go_wp2)
          go_meet
          case rel => exact ⟨_, (true), (by first | rfl | (simp; done) | (simp [*]; done)), H', ⟨by have := HK1.out; first | omega | exact Nat.le_refl _⟩, ⟨by (with_reducible repeat (first | apply Kd.R_alloc | apply Kd.R_drewN | apply Kd.R_drew)); exact Kd.R_mono (Kd.R_far (p := ⟨gb118, 2, none⟩) (Kd.R_far (p := ⟨gb118, 1, none⟩) (Kd.R_far (p := ⟨gb118, 0, none⟩) (Kd.R_types HO_6.out BK118.out (by decide)) (fun _ hk => hk.2) (.int .i64 ((rd_T35 l1 x17_1).f0))) (fun _ hk => hk.2) (.int .i64 ((rd_T35 l1 x17_1).f1))) (fun _ hk => hk.2) (.int .i64 ((rd_T35 l1 x17_1).f2))) (fun _ hk => trivial)⟩, ⟨by (with_reducible repeat (first | refine blk_drewN ?_ _ | refine blk_drew ?_ | refine blk_alloc ?_ _)); refine blk_put (cs := #[.int .i64 ((rd_T35 l1 x17_1).f0), .int .i64 ((rd_T35 l1 x17_1).f1), .int .i64 0]) ?_ 2 _ rfl; (with_reducible repeat (first | refine blk_drewN ?_ _ | refine blk_drew ?_ | refine blk_alloc ?_ _)); refine blk_put (cs := #[.int .i64 ((rd_T35 l1 x17_1).f0), .int .i64 0, .int .i64 0]) ?_ 1 _ rfl; (with_reducible repeat (first | refine blk_drewN ?_ _ | refine blk_drew ?_ | refine blk_alloc ?_ _)); refine blk_put (cs := #[.int .i64 0, .int .i64 0, .int .i64 0]) ?_ 0 _ rfl; (with_reducible repeat (first | refine blk_drewN ?_ _ | refine blk_drew ?_ | refine blk_alloc ?_ _)); exact BK118.out⟩, ⟨by repeat (first | (with_reducible first | exact HB.out | apply below_alloc | apply pw_below_drewN | apply below_drew1 | refine below_set ?_ GE118.out) | exact HB.out)⟩⟩
         ·rw [if_neg c15] at H
          have c15b0 : decide (((rd_T35 l1 x17_1).f0) < 0) = false := decide_eq_false c15
          clear c15
          (first | rw [c15b0] | (simp only [i64_w, i32_w]; rw [c15b0]) | skip)
          have H' := Aside0.mk H
          clear H
          have hcz17_0 : w13.cell? ⟨gb118, 0, none⟩ = some (.int .i64 0) := (blk_cell BK118.out 0).trans rfl
          have hcz17_1 : w13.cell? ⟨gb118, 1, none⟩ = some (.int .i64 0) := (blk_cell BK118.out 1).trans rfl
          have hcz17_2 : w13.cell? ⟨gb118, 2, none⟩ = some (.int .i64 0) := (blk_cell BK118.out 2).trans rfl
          have hfz17_0 := blk_frozen BK118.out 0
          have hfz17_1 := blk_frozen BK118.out 1
          have hfz17_2 := blk_frozen BK118.out 2
          obtain ⟨Ao18, co18, eo18⟩ := Kd.R_slice HO_6.out
          subst eo18
          go_wp2
          repeat (go_quiet (fail); try go_wp2)
          go_meet
          case rel => exact ⟨_, (decide (((rd_T35 l1 x17_1).f0) ≥ (x6_1.length : Int))), (by first | rfl | (simp; done) | (simp [*]; done)), H', ⟨by have := HK1.out; first | omega | exact Nat.le_refl _⟩, ⟨by (with_reducible repeat (first | apply Kd.R_alloc | apply Kd.R_drewN | apply Kd.R_drew)); exact Kd.R_mono (Kd.R_far (p := ⟨gb118, 2, none⟩) (Kd.R_far (p := ⟨gb118, 1, none⟩) (Kd.R_far (p := ⟨gb118, 0, none⟩) (Kd.R_types HO_6.out BK118.out (by decide)) (fun _ hk => hk.2) (.int .i64 ((rd_T35 l1 x17_1).f0))) (fun _ hk => hk.2) (.int .i64 ((rd_T35 l1 x17_1).f1))) (fun _ hk => hk.2) (.int .i64 ((rd_T35 l1 x17_1).f2))) (fun _ hk => trivial)⟩, ⟨by (with_reducible repeat (first | refine blk_drewN ?_ _ | refine blk_drew ?_ | refine blk_alloc ?_ _)); refine blk_put (cs := #[.int .i64 ((rd_T35 l1 x17_1).f0), .int .i64 ((rd_T35 l1 x17_1).f1), .int .i64 0]) ?_ 2 _ rfl; (with_reducible repeat (first | refine blk_drewN ?_ _ | refine blk_drew ?_ | refine blk_alloc ?_ _)); refine blk_put (cs := #[.int .i64 ((rd_T35 l1 x17_1).f0), .int .i64 0, .int .i64 0]) ?_ 1 _ rfl; (with_reducible repeat (first | refine blk_drewN ?_ _ | refine blk_drew ?_ | refine blk_alloc ?_ _)); refine blk_put (cs := #[.int .i64 0, .int .i64 0, .int .i64 0]) ?_ 0 _ rfl; (with_reducible repeat (first | refine blk_drewN ?_ _ | refine blk_drew ?_ | refine blk_alloc ?_ _)); exact BK118.out⟩, ⟨by repeat (first | (with_reducible first | exact HB.out | apply below_alloc | apply pw_below_drewN | apply below_drew1 | refine below_set ?_ GE118.out) | exact HB.out)⟩⟩
        case rest =>
         clear HC12
         try clear c1
         try clear p1
         try clear q1
         try clear hx1
         try clear p2
         try clear c4
         try clear c5
         try clear c9
         try clear c9b0
         try clear c10
         try clear c10b0
         try clear c11
         try clear c11b0
         try clear p11
         try clear q11
         try clear hx11
         try clear c15
         try clear c15b0
         try clear c17
         try clear hcz14_0
         try clear hcz14_1
         try clear hcz14_2
         try clear hcz16_0
         try clear hcz16_1
         try clear hcz16_2
         try clear hcz17_0
         try clear hcz17_1
         try clear hcz17_2
         try clear hfz14_0
         try clear hfz14_1
         try clear hfz14_2
         try clear hfz16_0
         try clear hfz16_1
         try clear hfz16_2
         try clear hfz17_0
         try clear hfz17_1
         try clear hfz17_2
         try clear hx117_0
         try clear hx117_1
         try clear hx117_2
         try clear p117
         try clear p2
         try clear q117
         obtain ⟨kq, x21_11, rfl, HA, HJ11, HO_6, BK118, HB⟩ := hcut
         cases kq with
         | zero => exact absurd HA.out (by simp [plan_Apply.j1])
         | succ kj11 =>
          have H := HA.out
          clear HA
          simp only [plan_Apply.j1] at H
          by_cases c19 : x21_11 = true
          ·subst c19
           have H1 : (some (([] : List Int), 4)) = some (r1, r2) := by rw [if_pos rfl] at H; exact H
           clear H
           have H := H1
           clear H1
           simp only [Option.some.injEq, Prod.mk.injEq] at H
           obtain ⟨rfl, rfl⟩ := H
           go_wp2
           repeat (go_quiet (fail); try go_wp2)
           go_ret2
           exact ⟨_, by first | rfl | (simp [errW_none, errW_some] <;> rfl) | (simp [*, errW_none, errW_some] <;> rfl), by first | exact Kd.R_nil _ _ _ _ _ | exact Kd.N_nil _ _ _ _ _ | exact Kd.V_nil _ _ _ _ _ | exact Kd.Q_nil _ _ _ _ _ | exact Kd.S_nil _ _ _ _ _, by repeat (first | (with_reducible first | exact HB.out | apply below_alloc | apply pw_below_drewN | apply below_drew1 | refine below_set ?_ GE118.out) | exact HB.out)⟩
          ·replace c19 := Bool.eq_false_iff.mpr c19
           subst c19
           have H1 : (if 0 ≤ ((rd_T35 l1 x17_1).f0) then (if ((rd_T35 l1 x17_1).f0) < (x6_1.length : Int) then (if (rd x6_1 ((rd_T35 l1 x17_1).f0)) = ((rd_T35 l1 x17_1).f1) then (if ((rd_T35 l1 x17_1).f2) < 1 then (some (([] : List Int), 1)) else (if ((rd_T35 l1 x17_1).f2) > 99 then (some (([] : List Int), 1)) else (plan_Apply.l0 kj11 (x6_1.set (((rd_T35 l1 x17_1).f0) : Int).toNat ((rd_T35 l1 x17_1).f2)) l1 (l1.length : Int) (wrap64 (x17_1 + 1))))) else (some (([] : List Int), 6))) else (none)) else (none)) = some (r1, r2) := by rw [if_neg (show ¬ (false = true) by decide)] at H; exact H
           clear H
           have H := H1
           clear H1
           by_cases c20 : 0 ≤ ((rd_T35 l1 x17_1).f0)
           ·rw [if_pos c20] at H
            have c20b0 : decide (0 ≤ ((rd_T35 l1 x17_1).f0)) = true := decide_eq_true c20
            clear c20
            by_cases c21 : ((rd_T35 l1 x17_1).f0) < (x6_1.length : Int)
            ·rw [if_pos c21] at H
             have c21b0 : decide (((rd_T35 l1 x17_1).f0) < (x6_1.length : Int)) = true := decide_eq_true c21
             clear c21
             by_cases c22 : (rd x6_1 ((rd_T35 l1 x17_1).f0)) = ((rd_T35 l1 x17_1).f1)
             ·rw [if_pos c22] at H
              have c22b0 : ((rd x6_1 ((rd_T35 l1 x17_1).f0)) == ((rd_T35 l1 x17_1).f1)) = true := beq_iff_eq.mpr c22
              have c22b1 : ((rd x6_1 ((rd_T35 l1 x17_1).f0)) != ((rd_T35 l1 x17_1).f1)) = false := bne_eq_false_iff_eq.mpr c22
              clear c22
              by_cases c23 : ((rd_T35 l1 x17_1).f2) < 1
              ·rw [if_pos c23] at H
               have c23b0 : decide (((rd_T35 l1 x17_1).f2) < 1) = true := decide_eq_true c23
               clear c23
               simp only [Option.some.injEq, Prod.mk.injEq] at H
               obtain ⟨rfl, rfl⟩ := H
               have hcz24_0 : wc.cell? ⟨gb118, 0, none⟩ = some (.int .i64 ((rd_T35 l1 x17_1).f0)) := (blk_cell BK118.out 0).trans rfl
               have hcz24_1 : wc.cell? ⟨gb118, 1, none⟩ = some (.int .i64 ((rd_T35 l1 x17_1).f1)) := (blk_cell BK118.out 1).trans rfl
               have hcz24_2 : wc.cell? ⟨gb118, 2, none⟩ = some (.int .i64 ((rd_T35 l1 x17_1).f2)) := (blk_cell BK118.out 2).trans rfl
               have hfz24_0 := blk_frozen BK118.out 0
               have hfz24_1 := blk_frozen BK118.out 1
               have hfz24_2 := blk_frozen BK118.out 2
               obtain ⟨Ao25, co25, eo25⟩ := Kd.R_slice HO_6.out
               subst eo25
               have p119 : 0 ≤ (((rd_T35 l1 x17_1).f0) : Int) := of_decide_eq_true (by first | (with_reducible assumption) | assumption)
               have q119 : ((rd_T35 l1 x17_1).f0) < (x6_1.length : Int) := of_decide_eq_true (by first | (with_reducible assumption) | assumption)
               obtain ⟨ad119, e119, hx119_0⟩ := Kd.at_int (Kd.R_reads' HO_6.out).2.2 ((rd_T35 l1 x17_1).f0) p119 q119
               cases e119
               replace p119 := eq_true p119
               replace q119 := eq_true q119
               go_wp2
               repeat (go_quiet (fail); try go_wp2)
               go_ret2
               exact ⟨_, by first | rfl | (simp [errW_none, errW_some] <;> rfl) | (simp [*, errW_none, errW_some] <;> rfl), by first | exact Kd.R_nil _ _ _ _ _ | exact Kd.N_nil _ _ _ _ _ | exact Kd.V_nil _ _ _ _ _ | exact Kd.Q_nil _ _ _ _ _ | exact Kd.S_nil _ _ _ _ _, by repeat (first | (with_reducible first | exact HB.out | apply below_alloc | apply pw_below_drewN | apply below_drew1 | refine below_set ?_ GE118.out) | exact HB.out)⟩
              ·rw [if_neg c23] at H
               have c23b0 : decide (((rd_T35 l1 x17_1).f2) < 1) = false := decide_eq_false c23
               clear c23
               by_cases c26 : ((rd_T35 l1 x17_1).f2) > 99
               ·rw [if_pos c26] at H
                have c26b0 : decide (99 < ((rd_T35 l1 x17_1).f2)) = true := decide_eq_true c26
                clear c26
                simp only [Option.some.injEq, Prod.mk.injEq] at H
                obtain ⟨rfl, rfl⟩ := H
                have hcz27_0 : wc.cell? ⟨gb118, 0, none⟩ = some (.int .i64 ((rd_T35 l1 x17_1).f0)) := (blk_cell BK118.out 0).trans rfl
                have hcz27_1 : wc.cell? ⟨gb118, 1, none⟩ = some (.int .i64 ((rd_T35 l1 x17_1).f1)) := (blk_cell BK118.out 1).trans rfl
                have hcz27_2 : wc.cell? ⟨gb118, 2, none⟩ = some (.int .i64 ((rd_T35 l1 x17_1).f2)) := (blk_cell BK118.out 2).trans rfl
                have hfz27_0 := blk_frozen BK118.out 0
                have hfz27_1 := blk_frozen BK118.out 1
                have hfz27_2 := blk_frozen BK118.out 2
                obtain ⟨Ao28, co28, eo28⟩ := Kd.R_slice HO_6.out
                subst eo28
                have p119 : 0 ≤ (((rd_T35 l1 x17_1).f0) : Int) := of_decide_eq_true (by first | (with_reducible assumption) | assumption)
                have q119 : ((rd_T35 l1 x17_1).f0) < (x6_1.length : Int) := of_decide_eq_true (by first | (with_reducible assumption) | assumption)
                obtain ⟨ad119, e119, hx119_0⟩ := Kd.at_int (Kd.R_reads' HO_6.out).2.2 ((rd_T35 l1 x17_1).f0) p119 q119
                cases e119
                replace p119 := eq_true p119
                replace q119 := eq_true q119
                go_wp2
                repeat (go_quiet (fail); try go_wp2)
                go_ret2
                exact ⟨_, by first | rfl | (simp [errW_none, errW_some] <;> rfl) | (simp [*, errW_none, errW_some] <;> rfl), by first | exact Kd.R_nil _ _ _ _ _ | exact Kd.N_nil _ _ _ _ _ | exact Kd.V_nil _ _ _ _ _ | exact Kd.Q_nil _ _ _ _ _ | exact Kd.S_nil _ _ _ _ _, by repeat (first | (with_reducible first | exact HB.out | apply below_alloc | apply pw_below_drewN | apply below_drew1 | refine below_set ?_ GE118.out) | exact HB.out)⟩
               ·rw [if_neg c26] at H
                have c26b0 : decide (99 < ((rd_T35 l1 x17_1).f2)) = false := decide_eq_false c26
                clear c26
                obtain ⟨y120, hy120⟩ : ∃ y_ : List Int, y_ = (x6_1.set (((rd_T35 l1 x17_1).f0) : Int).toNat ((rd_T35 l1 x17_1).f2)) := ⟨_, rfl⟩
                replace H : (plan_Apply.l0 kj11 y120 l1 (l1.length : Int) (wrap64 (x17_1 + 1))) = some (r1, r2) := by first | (rw [hy120]; with_reducible exact H) | (have H2_ := (Option.bind_some _ _).symm.trans H; rw [hy120]; with_reducible exact H2_) | (have H2_ := (Option.bind_some _ _).symm.trans H; with_reducible exact H2_) | with_reducible exact H | (rw [hy120]; exact H) | exact H
                have Ny120 := Aside0.mk hy120
                clear hy120
                have H' := Aside0.mk H
                clear H
                have hcz30_0 : wc.cell? ⟨gb118, 0, none⟩ = some (.int .i64 ((rd_T35 l1 x17_1).f0)) := (blk_cell BK118.out 0).trans rfl
                have hcz30_1 : wc.cell? ⟨gb118, 1, none⟩ = some (.int .i64 ((rd_T35 l1 x17_1).f1)) := (blk_cell BK118.out 1).trans rfl
                have hcz30_2 : wc.cell? ⟨gb118, 2, none⟩ = some (.int .i64 ((rd_T35 l1 x17_1).f2)) := (blk_cell BK118.out 2).trans rfl
                have hfz30_0 := blk_frozen BK118.out 0
                have hfz30_1 := blk_frozen BK118.out 1
                have hfz30_2 := blk_frozen BK118.out 2
                obtain ⟨Ao31, co31, eo31⟩ := Kd.R_slice HO_6.out
                subst eo31
                have p119 : 0 ≤ (((rd_T35 l1 x17_1).f0) : Int) := of_decide_eq_true (by first | (with_reducible assumption) | assumption)
                have q119 : ((rd_T35 l1 x17_1).f0) < (x6_1.length : Int) := of_decide_eq_true (by first | (with_reducible assumption) | assumption)
                obtain ⟨ad119, e119, hx119_0⟩ := Kd.at_int (Kd.R_reads' HO_6.out).2.2 ((rd_T35 l1 x17_1).f0) p119 q119
                cases e119
                replace p119 := eq_true p119
                replace q119 := eq_true q119
                have p29 : 0 ≤ (((rd_T35 l1 x17_1).f0) : Int) := of_decide_eq_true (by first | (with_reducible assumption) | assumption)
                have q29 : (((rd_T35 l1 x17_1).f0) : Int) < ((x6_1.length : Int) : Int) := of_decide_eq_true (by first | (with_reducible assumption) | assumption)
                obtain ⟨go29, co29, eo29, gb29, gl29, cl29, HG29⟩ := Kd.R_form HO_6.out (by omega)
                (first | cases eo29 | (injection eo29 with ea_ en_ ec_; (first | subst ea_ | (injection ea_ with ea_; subst ea_)); subst ec_; clear en_))
                have GB29 := Aside0.mk gb29
                have GG29 := Aside0.mk HG29
                clear gb29 gl29 HG29
                (first | simp only [add_plain] at hx119_0 | skip)
                obtain ⟨hx29_0, hf29_0⟩ := Kd.R_celln 0 HO_6.out (((rd_T35 l1 x17_1).f0) : Int) p29 q29
                replace p29 := eq_true p29
                replace q29 := eq_true q29
                have HP32 := Kd.R_putg HO_6.out (((rd_T35 l1 x17_1).f0) : Int) ((rd_T35 l1 x17_1).f2)
                go_wp2_with (first | ((with_reducible refine gate_store (t := 3) (p := 55) rfl ?_); (try (rw [drewN_self wc]; generalize hq_ : World.drewN wc _ = wc; have n0_ := Aside0.mk (Kd.R_at hq_ HO_6.out); have n1_ := Aside0.mk (blk_at hq_ BK118.out); have n2_ := Aside0.mk (below_at hq_ HB.out); clear hq_ HO_6 BK118 HB; have HO_6 := n0_; have BK118 := n1_; have HB := n2_; clear n0_ n1_ n2_; (try (have HP32 := Kd.R_putg HO_6.out (((rd_T35 l1 x17_1).f0) : Int) ((rd_T35 l1 x17_1).f2))))); refine store_event (t := 3) (p := 55) (v := ?vo_w33) (w1 := (wc.setCell ⟨go29, (((rd_T35 l1 x17_1).f0) : Int).toNat, none⟩ (.int .i64 ((rd_T35 l1 x17_1).f2)))) ?hg ?ho ?hn ?hr ?_; (case ho => rfl); (case hg => rfl); (case hn => rfl); (case hr => first | (go_simp; done) | (go_simp; rfl)); intro w33 hw; have hg : wc.grownBy w33 (some go29) := (by rw [hw]; exact HP32.2); have hp_ : Kd.R (Kd.int .i64) 3 w33 w.heap.size (fun _ => True) (.slice (some ⟨go29, 0, none⟩) x6_1.length co31) y120 := (by rw [hw, Ny120.out]; exact HP32.1); clear HP32; have n0_ := Aside0.mk (hp_); have n1_ := Aside0.mk (blk_grown (g := gb118) (o := .cells #[.int .i64 ((rd_T35 l1 x17_1).f0), .int .i64 ((rd_T35 l1 x17_1).f1), .int .i64 ((rd_T35 l1 x17_1).f2)] 35 (0, 0)) (by (with_reducible repeat (first | refine blk_drewN ?_ _ | refine blk_drew ?_ | refine blk_alloc ?_ _)); exact BK118.out) hg (Kd.R_ne HO_6.out BK118.out (by decide))); have n2_ := Aside0.mk ((by rw [hw]; exact below_set (HB.out) GB29.out : Below w.heap.size w w33)); clear HO_6; clear BK118; clear HB; have HO_6 := n0_; have BK118 := n1_; have HB := n2_; clear n0_ n1_ n2_; clear hg hw hp_))
                repeat (go_quiet (first | ((with_reducible refine gate_store (t := 3) (p := 55) rfl ?_); (try (rw [drewN_self wc]; generalize hq_ : World.drewN wc _ = wc; have n0_ := Aside0.mk (Kd.R_at hq_ HO_6.out); have n1_ := Aside0.mk (blk_at hq_ BK118.out); have n2_ := Aside0.mk (below_at hq_ HB.out); clear hq_ HO_6 BK118 HB; have HO_6 := n0_; have BK118 := n1_; have HB := n2_; clear n0_ n1_ n2_; (try (have HP32 := Kd.R_putg HO_6.out (((rd_T35 l1 x17_1).f0) : Int) ((rd_T35 l1 x17_1).f2))))); refine store_event (t := 3) (p := 55) (v := ?vo_w33) (w1 := (wc.setCell ⟨go29, (((rd_T35 l1 x17_1).f0) : Int).toNat, none⟩ (.int .i64 ((rd_T35 l1 x17_1).f2)))) ?hg ?ho ?hn ?hr ?_; (case ho => rfl); (case hg => rfl); (case hn => rfl); (case hr => first | (go_simp; done) | (go_simp; rfl)); intro w33 hw; have hg : wc.grownBy w33 (some go29) := (by rw [hw]; exact HP32.2); have hp_ : Kd.R (Kd.int .i64) 3 w33 w.heap.size (fun _ => True) (.slice (some ⟨go29, 0, none⟩) x6_1.length co31) y120 := (by rw [hw, Ny120.out]; exact HP32.1); clear HP32; have n0_ := Aside0.mk (hp_); have n1_ := Aside0.mk (blk_grown (g := gb118) (o := .cells #[.int .i64 ((rd_T35 l1 x17_1).f0), .int .i64 ((rd_T35 l1 x17_1).f1), .int .i64 ((rd_T35 l1 x17_1).f2)] 35 (0, 0)) (by (with_reducible repeat (first | refine blk_drewN ?_ _ | refine blk_drew ?_ | refine blk_alloc ?_ _)); exact BK118.out) hg (Kd.R_ne HO_6.out BK118.out (by decide))); have n2_ := Aside0.mk ((by rw [hw]; exact below_set (HB.out) GB29.out : Below w.heap.size w w33)); clear HO_6; clear BK118; clear HB; have HO_6 := n0_; have BK118 := n1_; have HB := n2_; clear n0_ n1_ n2_; clear hg hw hp_)); try go_wp2_with (first | ((with_reducible refine gate_store (t := 3) (p := 55) rfl ?_); (try (rw [drewN_self wc]; generalize hq_ : World.drewN wc _ = wc; have n0_ := Aside0.mk (Kd.R_at hq_ HO_6.out); have n1_ := Aside0.mk (blk_at hq_ BK118.out); have n2_ := Aside0.mk (below_at hq_ HB.out); clear hq_ HO_6 BK118 HB; have HO_6 := n0_; have BK118 := n1_; have HB := n2_; clear n0_ n1_ n2_; (try (have HP32 := Kd.R_putg HO_6.out (((rd_T35 l1 x17_1).f0) : Int) ((rd_T35 l1 x17_1).f2))))); refine store_event (t := 3) (p := 55) (v := ?vo_w33) (w1 := (wc.setCell ⟨go29, (((rd_T35 l1 x17_1).f0) : Int).toNat, none⟩ (.int .i64 ((rd_T35 l1 x17_1).f2)))) ?hg ?ho ?hn ?hr ?_; (case ho => rfl); (case hg => rfl); (case hn => rfl); (case hr => first | (go_simp; done) | (go_simp; rfl)); intro w33 hw; have hg : wc.grownBy w33 (some go29) := (by rw [hw]; exact HP32.2); have hp_ : Kd.R (Kd.int .i64) 3 w33 w.heap.size (fun _ => True) (.slice (some ⟨go29, 0, none⟩) x6_1.length co31) y120 := (by rw [hw, Ny120.out]; exact HP32.1); clear HP32; have n0_ := Aside0.mk (hp_); have n1_ := Aside0.mk (blk_grown (g := gb118) (o := .cells #[.int .i64 ((rd_T35 l1 x17_1).f0), .int .i64 ((rd_T35 l1 x17_1).f1), .int .i64 ((rd_T35 l1 x17_1).f2)] 35 (0, 0)) (by (with_reducible repeat (first | refine blk_drewN ?_ _ | refine blk_drew ?_ | refine blk_alloc ?_ _)); exact BK118.out) hg (Kd.R_ne HO_6.out BK118.out (by decide))); have n2_ := Aside0.mk ((by rw [hw]; exact below_set (HB.out) GB29.out : Below w.heap.size w w33)); clear HO_6; clear BK118; clear HB; have HO_6 := n0_; have BK118 := n1_; have HB := n2_; clear n0_ n1_ n2_; clear hg hw hp_)))
                (try (rw [drewN_self wc]; generalize hq_ : World.drewN wc _ = wc; have n0_ := Aside0.mk (Kd.R_at hq_ HO_6.out); have n1_ := Aside0.mk (blk_at hq_ BK118.out); have n2_ := Aside0.mk (below_at hq_ HB.out); clear hq_ HO_6 BK118 HB; have HO_6 := n0_; have BK118 := n1_; have HB := n2_; clear n0_ n1_ n2_; (try (have HP32 := Kd.R_putg HO_6.out (((rd_T35 l1 x17_1).f0) : Int) ((rd_T35 l1 x17_1).f2))); generalize hw_ : World.setCell wc _ _ = w33; have hw := hw_.symm; clear hw_; have hg : wc.grownBy w33 (some go29) := (by rw [hw]; exact HP32.2); have hp_ : Kd.R (Kd.int .i64) 3 w33 w.heap.size (fun _ => True) (.slice (some ⟨go29, 0, none⟩) x6_1.length co31) y120 := (by rw [hw, Ny120.out]; exact HP32.1); clear HP32; have n0_ := Aside0.mk (hp_); have n1_ := Aside0.mk (blk_grown (g := gb118) (o := .cells #[.int .i64 ((rd_T35 l1 x17_1).f0), .int .i64 ((rd_T35 l1 x17_1).f1), .int .i64 ((rd_T35 l1 x17_1).f2)] 35 (0, 0)) (by (with_reducible repeat (first | refine blk_drewN ?_ _ | refine blk_drew ?_ | refine blk_alloc ?_ _)); exact BK118.out) hg (Kd.R_ne HO_6.out BK118.out (by decide))); have n2_ := Aside0.mk ((by rw [hw]; exact below_set (HB.out) GB29.out : Below w.heap.size w w33)); clear HO_6; clear BK118; clear HB; have HO_6 := n0_; have BK118 := n1_; have HB := n2_; clear n0_ n1_ n2_; clear hg hw hp_))
                go_roundg kj11
                case measure => have := HK1.out; have := HJ11.out; omega
                case rel => exact ⟨(y120), (wrap64 (x17_1 + 1)), (by first | rfl | (simp; done) | (simp [*]; done)), H', ⟨by have := HK1.out; have := HJ11.out; omega⟩, ⟨by (with_reducible repeat (first | apply Kd.R_alloc | apply Kd.R_drewN | apply Kd.R_drew)); exact HO_6.out⟩, ⟨by repeat (first | (with_reducible first | exact HB.out | apply below_alloc | apply pw_below_drewN | apply below_drew1 | refine below_set ?_ GE118.out) | exact HB.out)⟩⟩
             ·rw [if_neg c22] at H
              have c22b0 : ((rd x6_1 ((rd_T35 l1 x17_1).f0)) == ((rd_T35 l1 x17_1).f1)) = false := beq_eq_false_iff_ne.mpr c22
              have c22b1 : ((rd x6_1 ((rd_T35 l1 x17_1).f0)) != ((rd_T35 l1 x17_1).f1)) = true := bne_iff_ne.mpr c22
              simp only [Option.some.injEq, Prod.mk.injEq] at H
              obtain ⟨rfl, rfl⟩ := H
              have hcz34_0 : wc.cell? ⟨gb118, 0, none⟩ = some (.int .i64 ((rd_T35 l1 x17_1).f0)) := (blk_cell BK118.out 0).trans rfl
              have hcz34_1 : wc.cell? ⟨gb118, 1, none⟩ = some (.int .i64 ((rd_T35 l1 x17_1).f1)) := (blk_cell BK118.out 1).trans rfl
              have hcz34_2 : wc.cell? ⟨gb118, 2, none⟩ = some (.int .i64 ((rd_T35 l1 x17_1).f2)) := (blk_cell BK118.out 2).trans rfl
              have hfz34_0 := blk_frozen BK118.out 0
              have hfz34_1 := blk_frozen BK118.out 1
              have hfz34_2 := blk_frozen BK118.out 2
              obtain ⟨Ao35, co35, eo35⟩ := Kd.R_slice HO_6.out
              subst eo35
              have p119 : 0 ≤ (((rd_T35 l1 x17_1).f0) : Int) := of_decide_eq_true (by first | (with_reducible assumption) | assumption)
              have q119 : ((rd_T35 l1 x17_1).f0) < (x6_1.length : Int) := of_decide_eq_true (by first | (with_reducible assumption) | assumption)
              obtain ⟨ad119, e119, hx119_0⟩ := Kd.at_int (Kd.R_reads' HO_6.out).2.2 ((rd_T35 l1 x17_1).f0) p119 q119
              cases e119
              replace p119 := eq_true p119
              replace q119 := eq_true q119
              go_wp2
              repeat (go_quiet (fail); try go_wp2)
              go_ret2
              exact ⟨_, by first | rfl | (simp [errW_none, errW_some] <;> rfl) | (simp [*, errW_none, errW_some] <;> rfl), by first | exact Kd.R_nil _ _ _ _ _ | exact Kd.N_nil _ _ _ _ _ | exact Kd.V_nil _ _ _ _ _ | exact Kd.Q_nil _ _ _ _ _ | exact Kd.S_nil _ _ _ _ _, by repeat (first | (with_reducible first | exact HB.out | apply below_alloc | apply pw_below_drewN | apply below_drew1 | refine below_set ?_ GE118.out) | exact HB.out)⟩
            ·rw [if_neg c21] at H
             exact absurd H (by simp)
           ·rw [if_neg c20] at H
            exact absurd H (by simp)
       ·rw [if_neg c11] at H
        exact absurd H (by simp)
      ·rw [if_neg c10] at H
       exact absurd H (by simp)
     ·rw [if_neg c9] at H
      have c9b0 : decide (x17_1 < (l1.length : Int)) = false := decide_eq_false c9
      clear c9
      simp only [Option.some.injEq, Prod.mk.injEq] at H
      obtain ⟨rfl, rfl⟩ := H
      go_wp2
      repeat (go_quiet (fail); try go_wp2)
      go_ret2
      exact ⟨_, by first | rfl | (simp [errW_none, errW_some] <;> rfl) | (simp [*, errW_none, errW_some] <;> rfl), by (with_reducible repeat (first | apply Kd.R_alloc | apply Kd.R_drewN | apply Kd.R_drew)); exact HO_6.out, by repeat (first | (with_reducible first | exact HB.out | apply below_alloc | apply pw_below_drewN | apply below_drew1) | exact HB.out)⟩
  ·rw [if_neg c5] at H
   exact absurd H (by simp)
 ·replace c4 := Bool.eq_false_iff.mpr c4
  subst c4
  have H1 : (some (([] : List Int), 1)) = some (r1, r2) := by rw [if_neg (show ¬ (false = true) by decide)] at H; exact H
  clear H
  have H := H1
  clear H1
  simp only [Option.some.injEq, Prod.mk.injEq] at H
  obtain ⟨rfl, rfl⟩ := H
  go_enter Try.func17, Try.ntmps17
  go_wp2_with (first | (go_at_call 15; (with_reducible refine (plan_Right.calls k _ _ l0 false _ ?side1 ?side2 A3.out).mono ?_); (case side1 => repeat (first | exact HR0.out | (with_reducible refine Kd.C_alloc ?_ _) | (with_reducible refine Kd.C_drewN ?_ _) | (with_reducible refine Kd.C_drew ?_))); (case side2 => exact HC0.out); rintro e w' ⟨rfl, ⟨nd, rfl⟩⟩; (try first | exact ⟨rfl, _, World.drewN_drewN _ _ _⟩ | exact ⟨rfl, _, Eq.trans (World.drewN_drewN _ _ _) (congrArg (World.drewN _) (Nat.add_assoc _ _ _))⟩)))
  repeat (go_quiet (first | (go_at_call 15; (with_reducible refine (plan_Right.calls k _ _ l0 false _ ?side1 ?side2 A3.out).mono ?_); (case side1 => repeat (first | exact HR0.out | (with_reducible refine Kd.C_alloc ?_ _) | (with_reducible refine Kd.C_drewN ?_ _) | (with_reducible refine Kd.C_drew ?_))); (case side2 => exact HC0.out); rintro e w' ⟨rfl, ⟨nd, rfl⟩⟩; (try first | exact ⟨rfl, _, World.drewN_drewN _ _ _⟩ | exact ⟨rfl, _, Eq.trans (World.drewN_drewN _ _ _) (congrArg (World.drewN _) (Nat.add_assoc _ _ _))⟩))); try go_wp2_with (first | (go_at_call 15; (with_reducible refine (plan_Right.calls k _ _ l0 false _ ?side1 ?side2 A3.out).mono ?_); (case side1 => repeat (first | exact HR0.out | (with_reducible refine Kd.C_alloc ?_ _) | (with_reducible refine Kd.C_drewN ?_ _) | (with_reducible refine Kd.C_drew ?_))); (case side2 => exact HC0.out); rintro e w' ⟨rfl, ⟨nd, rfl⟩⟩; (try first | exact ⟨rfl, _, World.drewN_drewN _ _ _⟩ | exact ⟨rfl, _, Eq.trans (World.drewN_drewN _ _ _) (congrArg (World.drewN _) (Nat.add_assoc _ _ _))⟩))))
  go_ret2
  exact ⟨_, by first | rfl | (simp [errW_none, errW_some] <;> rfl) | (simp [*, errW_none, errW_some] <;> rfl), by first | exact Kd.R_nil _ _ _ _ _ | exact Kd.N_nil _ _ _ _ _ | exact Kd.V_nil _ _ _ _ _ | exact Kd.Q_nil _ _ _ _ _ | exact Kd.S_nil _ _ _ _ _, by repeat (first | (with_reducible first | exact HB.out | apply below_alloc | apply pw_below_drewN | apply below_drew1) | exact HB.out)⟩

end Go.Proofs.Ytjlmlmacgopliaa.PPlan
