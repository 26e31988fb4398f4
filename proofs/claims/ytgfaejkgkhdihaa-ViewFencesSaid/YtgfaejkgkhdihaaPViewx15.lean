-- Printed for this claim by a turned copy of the print (wip/tools/patch.py); a text of this session, not of print.sh.
import Derived.Test.YtgfaejkgkhdihaaPViewx0
import Derived.Test.YtgfaejkgkhdihaaPViewx3
import Derived.Test.YtgfaejkgkhdihaaPViewx4
import Derived.Test.YtgfaejkgkhdihaaPViewx6
import Derived.Test.YtgfaejkgkhdihaaPViewx7
import Derived.Test.YtgfaejkgkhdihaaPViewx8
namespace Go.Proofs.Ytgfaejkgkhdihaa.PView
open Go.RowKit Go.Proofs.YtgfaejkgkhdihaaW.PrintWords Go.Proofs.YtgfaejkgkhdihaaW.PrintLast Go.Proofs.YtgfaejkgkhdihaaW.PrintMore
attribute [local go_sem] max2_int min2_int max_two min_two max_three min_three max_four min_four   -- for this text's walks alone
set_option linter.unusedVariables false
set_option linter.unusedSimpArgs false

/-! ### haywainlaw11_ViewFences: function 7 -/
mutual
def haywainlaw11_ViewFences.j0 : Nat → List (S46) → Int → Int → Bool → Int → List (S59) → Option (Bool)
 | 0, _, _, _, _, _, _ => none
 | k + 1, x1, x2, x3, x20, x455000, x455001 => if x20 = true then ((haywainlaw11_knows.f k).bind fun t461 => (some t461)) else (haywainlaw11_ViewFences.l0 k x1 x2 x3 x455000 0 x455000 x455001)
def haywainlaw11_ViewFences.j2 : Nat → Int → Int → Int → Int → List (S59) → Option (Bool)
 | 0, _, _, _, _, _ => none
 | k + 1, x2, x3, x9, x455000, x455001 => (view_Fenced.f k x455000 x455001 x9 x2 x3).bind fun t468 => (if x455000 = x9 then ((view_Inc.f k x455000 x455001 x2).bind fun t470 => (if t470 > x3 then (haywainlaw11_ViewFences.j3 k x3 t468 t470 (decide (t470 > 0))) else (haywainlaw11_ViewFences.j3 k x3 t468 t470 false))) else (if t468 = 9 then ((haywainlaw11_knows.f k).bind fun t469 => (some t469)) else (none)))
def haywainlaw11_ViewFences.j3 : Nat → Int → Int → Int → Bool → Option (Bool)
 | 0, _, _, _, _ => none
 | k + 1, x3, x11, x12, x66 => if x66 = true then (if x11 = 9 then ((haywainlaw11_knows.f k).bind fun t471 => (some t471)) else (none)) else (if x12 = x3 then (if ((x11 == 0) == (decide (x12 > 0))) = true then ((haywainlaw11_knows.f k).bind fun t472 => (some t472)) else (none)) else (if ((x11 == 0) == false) = true then ((haywainlaw11_knows.f k).bind fun t473 => (some t473)) else (none)))
def haywainlaw11_ViewFences.l0 : Nat → List (S46) → Int → Int → Int → Int → Int → List (S59) → Option (Bool)
 | 0, _, _, _, _, _, _, _ => none
 | k + 1, x1, x2, x3, x9, x10, x455000, x455001 => if x10 < (x1.length : Int) then (if x10 < 40 then (if 0 ≤ x10 then ((haywainlaw11_do.f k x455000 x455001 ((rd_T46 x1 x10).f0) ((rd_T46 x1 x10).f1) ((rd_T46 x1 x10).f2)).bind fun bt463 => (haywainlaw11_ViewFences.l0 k x1 x2 x3 x9 (wrap64 (x10 + 1)) bt463.1 bt463.2.1)) else (none)) else (haywainlaw11_ViewFences.j2 k x2 x3 x9 x455000 x455001)) else (haywainlaw11_ViewFences.j2 k x2 x3 x9 x455000 x455001)
end
def haywainlaw11_ViewFences.f (k : Nat) (a0_0 : Int) (l0_1 : List (S59)) (l1 : List (S46)) (a2 : Int) (a3 : Int) : Option (Bool) := (haywainlaw11_great.f a0_0 l0_1).bind fun t455 => (if t455 = true then (haywainlaw11_ViewFences.j0 k l1 a2 a3 true a0_0 l0_1) else ((haywainlaw11_as.f k a0_0 l0_1).bind fun bt456 => ((haywainref11_Right.f k bt456.1 bt456.2).bind fun t460 => (haywainlaw11_ViewFences.j0 k l1 a2 a3 (!t460) a0_0 l0_1))))
theorem haywainlaw11_ViewFences.mono_l : ∀ k, (∀ y0 y1 y2 y3 y4 y5, LeO (haywainlaw11_ViewFences.j0 k y0 y1 y2 y3 y4 y5) (haywainlaw11_ViewFences.j0 (k + 1) y0 y1 y2 y3 y4 y5)) ∧ (∀ y0 y1 y2 y3 y4, LeO (haywainlaw11_ViewFences.j2 k y0 y1 y2 y3 y4) (haywainlaw11_ViewFences.j2 (k + 1) y0 y1 y2 y3 y4)) ∧ (∀ y0 y1 y2 y3, LeO (haywainlaw11_ViewFences.j3 k y0 y1 y2 y3) (haywainlaw11_ViewFences.j3 (k + 1) y0 y1 y2 y3)) ∧ (∀ y0 y1 y2 y3 y4 y5 y6, LeO (haywainlaw11_ViewFences.l0 k y0 y1 y2 y3 y4 y5 y6) (haywainlaw11_ViewFences.l0 (k + 1) y0 y1 y2 y3 y4 y5 y6))
 | 0 => ⟨fun _ _ _ _ _ _ r h => by simp [haywainlaw11_ViewFences.j0] at h, fun _ _ _ _ _ r h => by simp [haywainlaw11_ViewFences.j2] at h, fun _ _ _ _ r h => by simp [haywainlaw11_ViewFences.j3] at h, fun _ _ _ _ _ _ _ r h => by simp [haywainlaw11_ViewFences.l0] at h⟩
 | k + 1 => by
  obtain ⟨ih0, ih1, ih2, ih3⟩ := haywainlaw11_ViewFences.mono_l k
  refine ⟨?_, ?_, ?_, ?_⟩
  ·intro y0 y1 y2 y3 y4 y5
   unfold haywainlaw11_ViewFences.j0
   repeat' first
   | (with_reducible exact ih0 _ _ _ _ _ _)
   | (with_reducible exact ih1 _ _ _ _ _)
   | (with_reducible exact ih2 _ _ _ _)
   | (with_reducible exact ih3 _ _ _ _ _ _ _)
   | (with_reducible exact haywainlaw11_as.mono _ _ _)
   | (with_reducible exact haywainlaw11_do.mono _ _ _ _ _ _)
   | (with_reducible exact haywainlaw11_knows.mono _)
   | (with_reducible exact haywainref11_Right.mono _ _ _)
   | (with_reducible exact view_Fenced.mono _ _ _ _ _ _)
   | (with_reducible exact view_Inc.mono _ _ _ _)
   | (with_reducible exact LeO.refl _)
   | (with_reducible exact LeO.none _)
   | (with_reducible refine LeO.ite ?_ ?_)
   | (with_reducible refine LeO.bind ?_ (fun _ => ?_))
   | exact ih0 _ _ _ _ _ _
   | exact ih1 _ _ _ _ _
   | exact ih2 _ _ _ _
   | exact ih3 _ _ _ _ _ _ _
   | exact haywainlaw11_as.mono _ _ _
   | exact haywainlaw11_do.mono _ _ _ _ _ _
   | exact haywainlaw11_knows.mono _
   | exact haywainref11_Right.mono _ _ _
   | exact view_Fenced.mono _ _ _ _ _ _
   | exact view_Inc.mono _ _ _ _
   | exact LeO.none _
   | refine LeO.ite ?_ ?_
   | refine LeO.bind ?_ (fun _ => ?_)
  ·intro y0 y1 y2 y3 y4
   unfold haywainlaw11_ViewFences.j2
   repeat' first
   | (with_reducible exact ih0 _ _ _ _ _ _)
   | (with_reducible exact ih1 _ _ _ _ _)
   | (with_reducible exact ih2 _ _ _ _)
   | (with_reducible exact ih3 _ _ _ _ _ _ _)
   | (with_reducible exact haywainlaw11_as.mono _ _ _)
   | (with_reducible exact haywainlaw11_do.mono _ _ _ _ _ _)
   | (with_reducible exact haywainlaw11_knows.mono _)
   | (with_reducible exact haywainref11_Right.mono _ _ _)
   | (with_reducible exact view_Fenced.mono _ _ _ _ _ _)
   | (with_reducible exact view_Inc.mono _ _ _ _)
   | (with_reducible exact LeO.refl _)
   | (with_reducible exact LeO.none _)
   | (with_reducible refine LeO.ite ?_ ?_)
   | (with_reducible refine LeO.bind ?_ (fun _ => ?_))
   | exact ih0 _ _ _ _ _ _
   | exact ih1 _ _ _ _ _
   | exact ih2 _ _ _ _
   | exact ih3 _ _ _ _ _ _ _
   | exact haywainlaw11_as.mono _ _ _
   | exact haywainlaw11_do.mono _ _ _ _ _ _
   | exact haywainlaw11_knows.mono _
   | exact haywainref11_Right.mono _ _ _
   | exact view_Fenced.mono _ _ _ _ _ _
   | exact view_Inc.mono _ _ _ _
   | exact LeO.none _
   | refine LeO.ite ?_ ?_
   | refine LeO.bind ?_ (fun _ => ?_)
  ·intro y0 y1 y2 y3
   unfold haywainlaw11_ViewFences.j3
   repeat' first
   | (with_reducible exact ih0 _ _ _ _ _ _)
   | (with_reducible exact ih1 _ _ _ _ _)
   | (with_reducible exact ih2 _ _ _ _)
   | (with_reducible exact ih3 _ _ _ _ _ _ _)
   | (with_reducible exact haywainlaw11_as.mono _ _ _)
   | (with_reducible exact haywainlaw11_do.mono _ _ _ _ _ _)
   | (with_reducible exact haywainlaw11_knows.mono _)
   | (with_reducible exact haywainref11_Right.mono _ _ _)
   | (with_reducible exact view_Fenced.mono _ _ _ _ _ _)
   | (with_reducible exact view_Inc.mono _ _ _ _)
   | (with_reducible exact LeO.refl _)
   | (with_reducible exact LeO.none _)
   | (with_reducible refine LeO.ite ?_ ?_)
   | (with_reducible refine LeO.bind ?_ (fun _ => ?_))
   | exact ih0 _ _ _ _ _ _
   | exact ih1 _ _ _ _ _
   | exact ih2 _ _ _ _
   | exact ih3 _ _ _ _ _ _ _
   | exact haywainlaw11_as.mono _ _ _
   | exact haywainlaw11_do.mono _ _ _ _ _ _
   | exact haywainlaw11_knows.mono _
   | exact haywainref11_Right.mono _ _ _
   | exact view_Fenced.mono _ _ _ _ _ _
   | exact view_Inc.mono _ _ _ _
   | exact LeO.none _
   | refine LeO.ite ?_ ?_
   | refine LeO.bind ?_ (fun _ => ?_)
  ·intro y0 y1 y2 y3 y4 y5 y6
   unfold haywainlaw11_ViewFences.l0
   repeat' first
   | (with_reducible exact ih0 _ _ _ _ _ _)
   | (with_reducible exact ih1 _ _ _ _ _)
   | (with_reducible exact ih2 _ _ _ _)
   | (with_reducible exact ih3 _ _ _ _ _ _ _)
   | (with_reducible exact haywainlaw11_as.mono _ _ _)
   | (with_reducible exact haywainlaw11_do.mono _ _ _ _ _ _)
   | (with_reducible exact haywainlaw11_knows.mono _)
   | (with_reducible exact haywainref11_Right.mono _ _ _)
   | (with_reducible exact view_Fenced.mono _ _ _ _ _ _)
   | (with_reducible exact view_Inc.mono _ _ _ _)
   | (with_reducible exact LeO.refl _)
   | (with_reducible exact LeO.none _)
   | (with_reducible refine LeO.ite ?_ ?_)
   | (with_reducible refine LeO.bind ?_ (fun _ => ?_))
   | exact ih0 _ _ _ _ _ _
   | exact ih1 _ _ _ _ _
   | exact ih2 _ _ _ _
   | exact ih3 _ _ _ _ _ _ _
   | exact haywainlaw11_as.mono _ _ _
   | exact haywainlaw11_do.mono _ _ _ _ _ _
   | exact haywainlaw11_knows.mono _
   | exact haywainref11_Right.mono _ _ _
   | exact view_Fenced.mono _ _ _ _ _ _
   | exact view_Inc.mono _ _ _ _
   | exact LeO.none _
   | refine LeO.ite ?_ ?_
   | refine LeO.bind ?_ (fun _ => ?_)
theorem haywainlaw11_ViewFences.mono : ∀ a0 a1 a2 a3 a4 k, LeO (haywainlaw11_ViewFences.f k a0 a1 a2 a3 a4) (haywainlaw11_ViewFences.f (k + 1) a0 a1 a2 a3 a4) := by
 intro a0 a1 a2 a3 a4 k
 obtain ⟨ih0, ih1, ih2, ih3⟩ := haywainlaw11_ViewFences.mono_l k
 unfold haywainlaw11_ViewFences.f
 repeat' first
   | (with_reducible exact ih0 _ _ _ _ _ _)
   | (with_reducible exact ih1 _ _ _ _ _)
   | (with_reducible exact ih2 _ _ _ _)
   | (with_reducible exact ih3 _ _ _ _ _ _ _)
   | (with_reducible exact haywainlaw11_as.mono _ _ _)
   | (with_reducible exact haywainlaw11_do.mono _ _ _ _ _ _)
   | (with_reducible exact haywainlaw11_knows.mono _)
   | (with_reducible exact haywainref11_Right.mono _ _ _)
   | (with_reducible exact view_Fenced.mono _ _ _ _ _ _)
   | (with_reducible exact view_Inc.mono _ _ _ _)
   | (with_reducible exact LeO.refl _)
   | (with_reducible exact LeO.none _)
   | (with_reducible refine LeO.ite ?_ ?_)
   | (with_reducible refine LeO.bind ?_ (fun _ => ?_))
   | exact ih0 _ _ _ _ _ _
   | exact ih1 _ _ _ _ _
   | exact ih2 _ _ _ _
   | exact ih3 _ _ _ _ _ _ _
   | exact haywainlaw11_as.mono _ _ _
   | exact haywainlaw11_do.mono _ _ _ _ _ _
   | exact haywainlaw11_knows.mono _
   | exact haywainref11_Right.mono _ _ _
   | exact view_Fenced.mono _ _ _ _ _ _
   | exact view_Inc.mono _ _ _ _
   | exact LeO.none _
   | refine LeO.ite ?_ ?_
   | refine LeO.bind ?_ (fun _ => ?_)
def haywainlaw11_ViewFences.T7 : Bool × List (List Nat × List Nat) := (true, [([], []), ([], []), ([], []), ([1, 2], [1, 2]), ([3], [3]), ([0, 4], [0, 4]), ([5], [5]), ([6], [6]), ([6], [6]), ([7, 5, 0, 1, 2, 3, 4, 5, 6, 7], [7])])
def haywainlaw11_ViewFences.B7 : List Nat := [0, 0, 0, 6, 14, 31, 63, 127, 127, 255]
theorem haywainlaw11_ViewFences.tab7 : rtab .any (opsOf Try.f7 7) = haywainlaw11_ViewFences.T7 := by kernel_rfl
theorem haywainlaw11_ViewFences.bits7 : waitsOk haywainlaw11_ViewFences.T7.2 haywainlaw11_ViewFences.B7 = true := by kernel_rfl
set_option maxHeartbeats 8000000 in
set_option maxRecDepth 100000 in
theorem haywainlaw11_ViewFences.calls (k : Nat) (a0_0 : Int) (P0_1_ : Nat → Prop) (A0_1 : Option Addr) (c0_1 : Nat) (l0_1 : List (S59)) (A1 : Option Addr) (c1 : Nat) (l1 : List (S46)) (a2 : Int) (a3 : Int) (r : Bool) (w : World) (hs0_1 : Kd.V k59 59 w w.heap.size (fun k_ => P0_1_ k_) (.slice A0_1 l0_1.length c0_1) l0_1) (hr1 : Kd.C k46 w A1 l1.length l1) (hc1 : l1.length ≤ c1) (h : haywainlaw11_ViewFences.f k a0_0 l0_1 l1 a2 a3 = some r) :
  Calls Try.prog 7 #[.agg #[.int .i64 a0_0, .slice A0_1 l0_1.length c0_1], .slice A1 l1.length c1, .int .i64 a2, .int .i64 a3] w fun e w' => e = .returned (.bool r) ∧ Below w.heap.size w w' := by
 have hu24 := Try.underlying24
 have hu46 := Try.underlying46
 have HO0_1 := Aside0.mk (show Kd.V k59 59 w w.heap.size (fun k_ => (P0_1_ k_ ∨ w.heap.size ≤ k_)) (.slice A0_1 l0_1.length c0_1) l0_1 from Kd.V_mono hs0_1 (fun k_ hk => .inl hk))
 have HR1 := Aside0.mk hr1
 have HC1 := Aside0.mk hc1
 clear hr1 hc1
 have HB := Aside0.mk (Below.refl w.heap.size w)
 have H : ((haywainlaw11_great.f a0_0 l0_1).bind fun t455 => (if t455 = true then (haywainlaw11_ViewFences.j0 k l1 a2 a3 true a0_0 l0_1) else ((haywainlaw11_as.f k a0_0 l0_1).bind fun bt456 => ((haywainref11_Right.f k bt456.1 bt456.2).bind fun t460 => (haywainlaw11_ViewFences.j0 k l1 a2 a3 (!t460) a0_0 l0_1))))) = some r := h
 clear h
 have HC5 := Aside0.mk H
 clear H
 go_enter Try.func7, Try.ntmps7
 go_upto_region 1 with (first | ((with_reducible refine gate_dst (N := 4) rfl ?_); refine box_event ?hg (N := 4) ?hd (cs := #[.int .i64 a0_0, .slice A0_1 l0_1.length c0_1]) (t := 24) ?hr ?_; (case hd => rfl); (case hg => rfl); (case hr => first | (go_simp; done) | (go_simp; rfl)); intro gb454 hg w6 hbox hb; have n0_ := Aside0.mk (Kd.V_below (Kd.V_elderB (by (with_reducible repeat (first | apply Kd.V_alloc | apply Kd.V_drewN | apply Kd.V_drew)); exact HO0_1.out) gb454 (Nat.le_of_eq hg.symm)) hb); have n1_ := Aside0.mk (below_step (by repeat (first | (with_reducible first | exact HB.out | apply below_alloc | apply pw_below_drewN | apply below_drew1) | exact HB.out)) hb); have n2_ := Aside0.mk (hbox); have n3_ := Aside0.mk ((by rw [hg]; exact (below_size (by repeat (first | (with_reducible first | exact HB.out | apply below_alloc | apply pw_below_drewN | apply below_drew1) | exact HB.out))) : w.heap.size ≤ gb454)); have n4_ := Aside0.mk ((by rw [hg]; exact (below_size (by repeat (first | (with_reducible first | exact HB.out | apply below_alloc | apply pw_below_drewN | apply below_drew1) | exact HB.out))) : w.heap.size ≤ gb454)); clear HO0_1; clear HB; have HO0_1 := n0_; have HB := n1_; have BK454 := n2_; have GW454 := n3_; have GE454 := n4_; clear n0_ n1_ n2_ n3_ n4_; clear hb hbox hg))
 (try simp only [Act.put, List.setIfInBounds_toArray, List.set_cons_zero, List.set_cons_succ])
 go_cut [20] (fun v20 wc => ∃ (kq : Nat) (x20_4 : Bool), v20 = .bool x20_4 ∧ Aside0 (haywainlaw11_ViewFences.j0 kq l1 a2 a3 x20_4 a0_0 l0_1 = some r) ∧ Aside0 (kq ≤ k) ∧ Aside0 (Kd.V k59 59 wc w.heap.size (fun k_ => (P0_1_ k_ ∨ w.heap.size ≤ k_) ∧ k_ ≠ gb454) (.slice A0_1 l0_1.length c0_1) l0_1) ∧ Aside0 (wc.heap[gb454]? = some (.cells #[.int .i64 a0_0, (.slice A0_1 l0_1.length c0_1)] 24 (0, 0))) ∧ Aside0 (Below w.heap.size w wc))
 case first =>
  have H := HC5.out
  clear HC5
  replace H := Option.bind_eq_some_iff.mp H
  obtain ⟨t455, A70, H⟩ := H
  replace H : (if t455 = true then (haywainlaw11_ViewFences.j0 k l1 a2 a3 true a0_0 l0_1) else ((haywainlaw11_as.f k a0_0 l0_1).bind fun bt456 => ((haywainref11_Right.f k bt456.1 bt456.2).bind fun t460 => (haywainlaw11_ViewFences.j0 k l1 a2 a3 (!t460) a0_0 l0_1)))) = some r := H
  have A7 := Aside0.mk A70
  clear A70
  by_cases c8 : t455 = true
  ·subst c8
   have H1 : (haywainlaw11_ViewFences.j0 k l1 a2 a3 true a0_0 l0_1) = some r := by rw [if_pos rfl] at H; exact H
   clear H
   have H := H1
   clear H1
   have H' := Aside0.mk H
   clear H
   have hcz9_0 : w6.cell? ⟨gb454, 0, none⟩ = some (.int .i64 a0_0) := (blk_cell BK454.out 0).trans rfl
   have hcz9_1 : w6.cell? ⟨gb454, 1, none⟩ = some (.slice A0_1 l0_1.length c0_1) := (blk_cell BK454.out 1).trans rfl
   have hfz9_0 := blk_frozen BK454.out 0
   have hfz9_1 := blk_frozen BK454.out 1
   go_wp2_with (first | ((with_reducible refine gate_callee (f := 9) rfl ?_); refine goesL_ (some 14) rfl rfl Try.func9 (by kernel_rfl) rfl #[.agg #[.int .i64 a0_0, .slice A0_1 l0_1.length c0_1]] rfl (by (try simp only [List.map_toArray, List.map_cons, List.map_nil]); first | done | rfl | (simp only [List.length_drop, List.length_take]; rfl)) ?_; (with_reducible refine (haywainlaw11_great.calls a0_0 _ _ l0_1 true _ ?side1 ?side2 A7.out).mono ?_); (case side1 => repeat (first | exact (Kd.V_reads' HO0_1.out).2.2 | (with_reducible refine Kd.C_alloc ?_ _) | (with_reducible refine Kd.C_drewN ?_ _) | (with_reducible refine Kd.C_drew ?_))); (case side2 => exact (Kd.V_reads' HO0_1.out).2.1); rintro e w10 ⟨rfl, hb⟩; refine ⟨_, rfl, ?_⟩; have n0_ := Aside0.mk (Kd.V_below (by (with_reducible repeat (first | apply Kd.V_alloc | apply Kd.V_drewN | apply Kd.V_drew)); exact HO0_1.out) hb); have n1_ := Aside0.mk (blk_below (g := gb454) (o := .cells #[.int .i64 a0_0, .slice A0_1 l0_1.length c0_1] 24 (0, 0)) (by (with_reducible repeat (first | refine blk_drewN ?_ _ | refine blk_drew ?_ | refine blk_alloc ?_ _)); exact BK454.out) hb); have n2_ := Aside0.mk (below_step (by repeat (first | (with_reducible first | exact HB.out | apply below_alloc | apply pw_below_drewN | apply below_drew1 | refine below_set ?_ GE454.out) | exact HB.out)) hb); clear HO0_1; clear BK454; clear HB; have HO0_1 := n0_; have BK454 := n1_; have HB := n2_; clear n0_ n1_ n2_; (try clear hb); (try clear hb2); (try clear hk); (try clear hi)))
   go_meet
   case rel => exact ⟨_, (true), (by first | rfl | (simp; done) | (simp [*]; done)), H', ⟨by first | omega | exact Nat.le_refl _⟩, ⟨by (with_reducible repeat (first | apply Kd.V_alloc | apply Kd.V_drewN | apply Kd.V_drew)); exact HO0_1.out⟩, ⟨by (with_reducible repeat (first | refine blk_drewN ?_ _ | refine blk_drew ?_ | refine blk_alloc ?_ _)); exact BK454.out⟩, ⟨by repeat (first | (with_reducible first | exact HB.out | apply below_alloc | apply pw_below_drewN | apply below_drew1 | refine below_set ?_ GE454.out) | exact HB.out)⟩⟩
  ·replace c8 := Bool.eq_false_iff.mpr c8
   subst c8
   have H1 : ((haywainlaw11_as.f k a0_0 l0_1).bind fun bt456 => ((haywainref11_Right.f k bt456.1 bt456.2).bind fun t460 => (haywainlaw11_ViewFences.j0 k l1 a2 a3 (!t460) a0_0 l0_1))) = some r := by rw [if_neg (show ¬ (false = true) by decide)] at H; exact H
   clear H
   have H := H1
   clear H1
   replace H := Option.bind_eq_some_iff.mp H
   obtain ⟨⟨t456, t457⟩, A110, H⟩ := H
   replace H : ((haywainref11_Right.f k t456 t457).bind fun t460 => (haywainlaw11_ViewFences.j0 k l1 a2 a3 (!t460) a0_0 l0_1)) = some r := H
   have A11 := Aside0.mk A110
   clear A110
   replace H := Option.bind_eq_some_iff.mp H
   obtain ⟨t460, A120, H⟩ := H
   replace H : (haywainlaw11_ViewFences.j0 k l1 a2 a3 (!t460) a0_0 l0_1) = some r := H
   have A12 := Aside0.mk A120
   clear A120
   have H' := Aside0.mk H
   clear H
   have hcz13_0 : w6.cell? ⟨gb454, 0, none⟩ = some (.int .i64 a0_0) := (blk_cell BK454.out 0).trans rfl
   have hcz13_1 : w6.cell? ⟨gb454, 1, none⟩ = some (.slice A0_1 l0_1.length c0_1) := (blk_cell BK454.out 1).trans rfl
   have hfz13_0 := blk_frozen BK454.out 0
   have hfz13_1 := blk_frozen BK454.out 1
   go_wp2_with (first | ((with_reducible refine gate_callee (f := 9) rfl ?_); refine goesL_ (some 14) rfl rfl Try.func9 (by kernel_rfl) rfl #[.agg #[.int .i64 a0_0, .slice A0_1 l0_1.length c0_1]] rfl (by (try simp only [List.map_toArray, List.map_cons, List.map_nil]); first | done | rfl | (simp only [List.length_drop, List.length_take]; rfl)) ?_; (with_reducible refine (haywainlaw11_great.calls a0_0 _ _ l0_1 false _ ?side1 ?side2 A7.out).mono ?_); (case side1 => repeat (first | exact (Kd.V_reads' HO0_1.out).2.2 | (with_reducible refine Kd.C_alloc ?_ _) | (with_reducible refine Kd.C_drewN ?_ _) | (with_reducible refine Kd.C_drew ?_))); (case side2 => exact (Kd.V_reads' HO0_1.out).2.1); rintro e w14 ⟨rfl, hb⟩; refine ⟨_, rfl, ?_⟩; have n0_ := Aside0.mk (Kd.V_below (by (with_reducible repeat (first | apply Kd.V_alloc | apply Kd.V_drewN | apply Kd.V_drew)); exact HO0_1.out) hb); have n1_ := Aside0.mk (blk_below (g := gb454) (o := .cells #[.int .i64 a0_0, .slice A0_1 l0_1.length c0_1] 24 (0, 0)) (by (with_reducible repeat (first | refine blk_drewN ?_ _ | refine blk_drew ?_ | refine blk_alloc ?_ _)); exact BK454.out) hb); have n2_ := Aside0.mk (below_step (by repeat (first | (with_reducible first | exact HB.out | apply below_alloc | apply pw_below_drewN | apply below_drew1 | refine below_set ?_ GE454.out) | exact HB.out)) hb); clear HO0_1; clear BK454; clear HB; have HO0_1 := n0_; have BK454 := n1_; have HB := n2_; clear n0_ n1_ n2_; (try clear hb); (try clear hb2); (try clear hk); (try clear hi); have hcz15_0 : w14.cell? ⟨gb454, 0, none⟩ = some (.int .i64 a0_0) := (blk_cell BK454.out 0).trans rfl; have hcz15_1 : w14.cell? ⟨gb454, 1, none⟩ = some (.slice A0_1 l0_1.length c0_1) := (blk_cell BK454.out 1).trans rfl; have hfz15_0 := blk_frozen BK454.out 0; have hfz15_1 := blk_frozen BK454.out 1) | (go_at_call 11; (with_reducible refine (haywainlaw11_as.calls k a0_0 _ _ l0_1 t456 t457 _ ?side1 ?side2 A11.out).mono ?_); (case side1 => repeat (first | exact (Kd.V_reads' HO0_1.out).2.2 | (with_reducible refine Kd.C_alloc ?_ _) | (with_reducible refine Kd.C_drewN ?_ _) | (with_reducible refine Kd.C_drew ?_))); (case side2 => exact (Kd.V_reads' HO0_1.out).2.1); rintro e w16 ⟨v458, rfl, ho0, hb⟩; have n0_ := Aside0.mk (Kd.V_elder' (by (with_reducible repeat (first | apply Kd.V_alloc | apply Kd.V_drewN | apply Kd.V_drew)); exact HO0_1.out) (Kd.R_base ho0) hb); have n1_ := Aside0.mk (Kd.R_lower (Kd.R_newM (M := fun k_ => (w.heap.size ≤ k_)) ho0 (below_size (by repeat (first | (with_reducible first | exact HB.out | apply below_alloc | apply pw_below_drewN | apply below_drew1 | refine below_set ?_ GE454.out) | exact HB.out))) (fun k_ h_ => h_)) (below_size (by repeat (first | (with_reducible first | exact HB.out | apply below_alloc | apply pw_below_drewN | apply below_drew1 | refine below_set ?_ GE454.out) | exact HB.out)))); have n2_ := Aside0.mk (blk_below (g := gb454) (o := .cells #[.int .i64 a0_0, .slice A0_1 l0_1.length c0_1] 24 (0, 0)) (by (with_reducible repeat (first | refine blk_drewN ?_ _ | refine blk_drew ?_ | refine blk_alloc ?_ _)); exact BK454.out) hb); have n3_ := Aside0.mk (below_step (by repeat (first | (with_reducible first | exact HB.out | apply below_alloc | apply pw_below_drewN | apply below_drew1 | refine below_set ?_ GE454.out) | exact HB.out)) hb); clear HO0_1; clear BK454; clear HB; have HO0_1 := n0_; have HO459 := n1_; have BK454 := n2_; have HB := n3_; clear n0_ n1_ n2_ n3_; (try clear hb); (try clear hb2); (try clear hk); (try clear hi); (try clear ho0); obtain ⟨Ao17, co17, eo17⟩ := Kd.R_slice HO459.out; subst eo17) | (go_at_call 20; (with_reducible refine (haywainref11_Right.calls k t456 _ _ t457 t460 _ ?side1 ?side2 A12.out).mono ?_); (case side1 => repeat (first | exact (Kd.R_reads' HO459.out).2.2 | (with_reducible refine Kd.C_alloc ?_ _) | (with_reducible refine Kd.C_drewN ?_ _) | (with_reducible refine Kd.C_drew ?_))); (case side2 => exact (Kd.R_reads' HO459.out).2.1); rintro e w18 ⟨rfl, hb⟩; have n0_ := Aside0.mk (Kd.V_below (by (with_reducible repeat (first | apply Kd.V_alloc | apply Kd.V_drewN | apply Kd.V_drew)); exact HO0_1.out) hb); have n1_ := Aside0.mk (Kd.R_below (by (with_reducible repeat (first | apply Kd.R_alloc | apply Kd.R_drewN | apply Kd.R_drew)); exact HO459.out) hb); have n2_ := Aside0.mk (blk_below (g := gb454) (o := .cells #[.int .i64 a0_0, .slice A0_1 l0_1.length c0_1] 24 (0, 0)) (by (with_reducible repeat (first | refine blk_drewN ?_ _ | refine blk_drew ?_ | refine blk_alloc ?_ _)); exact BK454.out) hb); have n3_ := Aside0.mk (below_step (by repeat (first | (with_reducible first | exact HB.out | apply below_alloc | apply pw_below_drewN | apply below_drew1 | refine below_set ?_ GE454.out) | exact HB.out)) hb); clear HO0_1; clear HO459; clear BK454; clear HB; have HO0_1 := n0_; have HO459 := n1_; have BK454 := n2_; have HB := n3_; clear n0_ n1_ n2_ n3_; (try clear hb); (try clear hb2); (try clear hk); (try clear hi)))
   go_meet
   case rel => exact ⟨_, (!t460), (by first | rfl | (simp; done) | (simp [*]; done)), H', ⟨by first | omega | exact Nat.le_refl _⟩, ⟨by (with_reducible repeat (first | apply Kd.V_alloc | apply Kd.V_drewN | apply Kd.V_drew)); exact Kd.V_mono HO0_1.out (fun _ hk => ⟨hk.1.1, hk.1.2⟩)⟩, ⟨by (with_reducible repeat (first | refine blk_drewN ?_ _ | refine blk_drew ?_ | refine blk_alloc ?_ _)); exact BK454.out⟩, ⟨by repeat (first | (with_reducible first | exact HB.out | apply below_alloc | apply pw_below_drewN | apply below_drew1 | refine below_set ?_ GE454.out) | exact HB.out)⟩⟩
 case rest =>
  clear HC5
  try clear c1
  try clear p2
  try clear c7
  try clear c8
  try clear c9
  try clear hcz13_0
  try clear hcz13_1
  try clear hcz15_0
  try clear hcz15_1
  try clear hcz9_0
  try clear hcz9_1
  try clear hfz13_0
  try clear hfz13_1
  try clear hfz15_0
  try clear hfz15_1
  try clear hfz9_0
  try clear hfz9_1
  obtain ⟨kq, x20_4, rfl, HA, HJ4, HO_455001, BK454, HB⟩ := hcut
  cases kq with
  | zero => exact absurd HA.out (by simp [haywainlaw11_ViewFences.j0])
  | succ kj4 =>
   have H := HA.out
   clear HA
   simp only [haywainlaw11_ViewFences.j0] at H
   by_cases c19 : x20_4 = true
   ·subst c19
    have H1 : ((haywainlaw11_knows.f kj4).bind fun t461 => (some t461)) = some r := by rw [if_pos rfl] at H; exact H
    clear H
    have H := H1
    clear H1
    replace H := Option.bind_eq_some_iff.mp H
    obtain ⟨t461, A200, H⟩ := H
    replace H : (some t461) = some r := H
    have A20 := Aside0.mk A200
    clear A200
    obtain rfl := Option.some.inj H
    go_wp2_with (first | ((with_reducible refine gate_callee (f := 10) rfl ?_); refine goesL_ (some 21) rfl rfl Try.func10 (by kernel_rfl) rfl #[] rfl (by (try simp only [List.map_toArray, List.map_cons, List.map_nil]); first | done | rfl | (simp only [List.length_drop, List.length_take]; rfl)) ?_; (with_reducible refine (haywainlaw11_knows.calls kj4  t461 _ A20.out).mono ?_); rintro e w21 ⟨rfl, hb⟩; refine ⟨_, rfl, ?_⟩; have n0_ := Aside0.mk (Kd.V_below (by (with_reducible repeat (first | apply Kd.V_alloc | apply Kd.V_drewN | apply Kd.V_drew)); exact HO_455001.out) hb); have n1_ := Aside0.mk (blk_below (g := gb454) (o := .cells #[.int .i64 a0_0, .slice A0_1 l0_1.length c0_1] 24 (0, 0)) (by (with_reducible repeat (first | refine blk_drewN ?_ _ | refine blk_drew ?_ | refine blk_alloc ?_ _)); exact BK454.out) hb); have n2_ := Aside0.mk (below_step (by repeat (first | (with_reducible first | exact HB.out | apply below_alloc | apply pw_below_drewN | apply below_drew1 | refine below_set ?_ GE454.out) | exact HB.out)) hb); clear HO_455001; clear BK454; clear HB; have HO_455001 := n0_; have BK454 := n1_; have HB := n2_; clear n0_ n1_ n2_; (try clear hb); (try clear hb2); (try clear hk); (try clear hi)))
    go_ret
    exact ⟨by first | rfl | (simp [errW_none, errW_some] <;> rfl) | (simp [*, errW_none, errW_some] <;> rfl), by repeat (first | (with_reducible first | exact HB.out | apply below_alloc | apply pw_below_drewN | apply below_drew1 | refine below_set ?_ GE454.out) | exact HB.out)⟩
   ·replace c19 := Bool.eq_false_iff.mpr c19
    subst c19
    have H1 : (haywainlaw11_ViewFences.l0 kj4 l1 a2 a3 a0_0 0 a0_0 l0_1) = some r := by rw [if_neg (show ¬ (false = true) by decide)] at H; exact H
    clear H
    have H := H1
    clear H1
    have HC22 := Aside0.mk H
    clear H
    have hcz23_0 : wc.cell? ⟨gb454, 0, none⟩ = some (.int .i64 a0_0) := (blk_cell BK454.out 0).trans rfl
    have hcz23_1 : wc.cell? ⟨gb454, 1, none⟩ = some (.slice A0_1 l0_1.length c0_1) := (blk_cell BK454.out 1).trans rfl
    have hfz23_0 := blk_frozen BK454.out 0
    have hfz23_1 := blk_frozen BK454.out 1
    go_upto_block 0 with (fail)
    go_cut [] (fun wc => ∃ (kq : Nat) (x455000_21 : Int) (x455001_21 : List (S59)) (u455001 : Value), Aside0 (haywainlaw11_ViewFences.j2 kq a2 a3 a0_0 x455000_21 x455001_21 = some r) ∧ Aside0 (kq ≤ kj4) ∧ Aside0 (Kd.V k59 59 wc w.heap.size (fun k_ => (P0_1_ k_ ∨ w.heap.size ≤ k_) ∧ k_ ≠ gb454) u455001 x455001_21) ∧ Aside0 (wc.heap[gb454]? = some (.cells #[.int .i64 x455000_21, u455001] 24 (0, 0))) ∧ Aside0 (Below w.heap.size w wc))
    case first =>
     have H := HC22.out
     clear HC22
     have H' := Aside0.mk H
     clear H
     go_wp2
     go_loopg [10] kj4 (fun kq v10 w' => ∃ (x10_2 : Int) (x455000_2 : Int) (x455001_2 : List (S59)) (u455001 : Value), v10 = .int .i64 x10_2 ∧ Aside0 (haywainlaw11_ViewFences.l0 kq l1 a2 a3 a0_0 x10_2 x455000_2 x455001_2 = some r) ∧ Aside0 (kq ≤ kj4) ∧ Aside0 (Kd.V k59 59 w' w.heap.size (fun k_ => (P0_1_ k_ ∨ w.heap.size ≤ k_) ∧ k_ ≠ gb454) u455001 x455001_2) ∧ Aside0 (w'.heap[gb454]? = some (.cells #[.int .i64 x455000_2, u455001] 24 (0, 0))) ∧ Aside0 (Below w.heap.size w w'))
     case atStart => exact ⟨(0), (a0_0), (l0_1), (.slice A0_1 l0_1.length c0_1), (by first | rfl | (simp; done) | (simp [*]; done)), H', ⟨Nat.le_refl _⟩, ⟨by (with_reducible repeat (first | apply Kd.V_alloc | apply Kd.V_drewN | apply Kd.V_drew)); exact HO_455001.out⟩, ⟨by (with_reducible repeat (first | refine blk_drewN ?_ _ | refine blk_drew ?_ | refine blk_alloc ?_ _)); exact BK454.out⟩, ⟨by repeat (first | (with_reducible first | exact HB.out | apply below_alloc | apply pw_below_drewN | apply below_drew1 | refine below_set ?_ GE454.out) | exact HB.out)⟩⟩
     case round =>
      clear H'
      try clear c1
      try clear p2
      try clear c7
      try clear c8
      try clear c9
      try clear c10
      try clear c19
      try clear hcz13_0
      try clear hcz13_1
      try clear hcz15_0
      try clear hcz15_1
      try clear hcz23_0
      try clear hcz23_1
      try clear hcz9_0
      try clear hcz9_1
      try clear hfz13_0
      try clear hfz13_1
      try clear hfz15_0
      try clear hfz15_1
      try clear hfz23_0
      try clear hfz23_1
      try clear hfz9_0
      try clear hfz9_1
      try clear p2
      obtain ⟨x10_2, x455000_2, x455001_2, u455001, rfl, HA, HK2, HO_455001, BK454, HB⟩ := hrel
      cases gk with
      | zero => exact absurd HA.out (by simp [haywainlaw11_ViewFences.l0])
      | succ k2 =>
       have H := HA.out
       clear HA
       simp only [haywainlaw11_ViewFences.l0] at H
       by_cases c24 : x10_2 < (l1.length : Int)
       ·rw [if_pos c24] at H
        have c24b0 : decide (x10_2 < (l1.length : Int)) = true := decide_eq_true c24
        clear c24
        (first | rw [c24b0] | (simp only [i64_w, i32_w]; rw [c24b0]) | skip)
        by_cases c25 : x10_2 < 40
        ·rw [if_pos c25] at H
         have c25b0 : decide (x10_2 < 40) = true := decide_eq_true c25
         clear c25
         by_cases c26 : 0 ≤ x10_2
         ·rw [if_pos c26] at H
          have c26b0 : decide (0 ≤ x10_2) = true := decide_eq_true c26
          clear c26
          replace H := Option.bind_eq_some_iff.mp H
          obtain ⟨⟨t463, t464, t467⟩, A270, H⟩ := H
          replace H : (haywainlaw11_ViewFences.l0 k2 l1 a2 a3 a0_0 (wrap64 (x10_2 + 1)) t463 t464) = some r := H
          have A27 := Aside0.mk A270
          clear A270
          have H' := Aside0.mk H
          clear H
          try go_wp2
          have n0_ := Aside0.mk (Kd.V_drew HO_455001.out)
          have n1_ := Aside0.mk (blk_drew BK454.out)
          have n2_ := Aside0.mk (below_drew1 HB.out)
          clear HO_455001
          clear BK454
          clear HB
          have HO_455001 := n0_
          have BK454 := n1_
          have HB := n2_
          clear n0_ n1_ n2_
          have p462 : 0 ≤ (x10_2 : Int) := of_decide_eq_true (by first | (with_reducible assumption) | assumption)
          have q462 : x10_2 < (l1.length : Int) := of_decide_eq_true (by first | (with_reducible assumption) | assumption)
          obtain ⟨ad462, e462, hx462_0, hx462_1, hx462_2⟩ := at_T46 HR1.out x10_2 p462 q462
          have hw462_2 := hx462_2
          have hw462_1 := hx462_1
          have hw462_0 := hx462_0
          cases e462
          replace hx462_0 := (HB.out.cell (World.block_lt_of_cell? w _ hx462_0)).trans hx462_0
          replace hx462_1 := (HB.out.cell (World.block_lt_of_cell? w _ hx462_1)).trans hx462_1
          replace hx462_2 := (HB.out.cell (World.block_lt_of_cell? w _ hx462_2)).trans hx462_2
          replace p462 := eq_true p462
          replace q462 := eq_true q462
          obtain ⟨Ao29, co29, eo29⟩ := Kd.V_slice HO_455001.out
          (first | subst eo29 | (injection eo29 with f1_ f2_ f3_; have f4_ := f1_.symm; have f5_ := f3_.symm; clear f1_ f2_ f3_; subst f4_; subst f5_))
          refine start_ (n := 10) (S := fun w' => w'.cell? ⟨gb454, 0, none⟩ = some (.int .i64 x455000_2) ∧ w'.cell? ⟨gb454, 1, none⟩ = some (.slice Ao29 x455001_2.length co29) ∧ w'.cell? (ad462.add ((x10_2).toNat * 3)) = some (.int .i64 ((rd_T46 l1 x10_2).f0)) ∧ w'.cell? ⟨(ad462.add ((x10_2).toNat * 3)).block, (ad462.add ((x10_2).toNat * 3)).off + 1, none⟩ = some (.int .i64 ((rd_T46 l1 x10_2).f1)) ∧ w'.cell? ⟨(ad462.add ((x10_2).toNat * 3)).block, (ad462.add ((x10_2).toNat * 3)).off + 2, none⟩ = some (.int .i64 ((rd_T46 l1 x10_2).f2))) (ds := [9]) #[false, false, false, false, false, false, false, false, false, false] (by kernel_rfl) rfl rfl ⟨(blk_cell BK454.out 0).trans rfl, (blk_cell BK454.out 1).trans rfl, ((HB.out.cell (World.block_lt_of_cell? w _ hw462_0)).trans hw462_0), ((HB.out.cell (World.block_lt_of_cell? w _ hw462_1)).trans hw462_1), ((HB.out.cell (World.block_lt_of_cell? w _ hw462_2)).trans hw462_2)⟩ (fun hHeld => ?_); refine with_tabW haywainlaw11_ViewFences.tab7 haywainlaw11_ViewFences.bits7 (fun HT_ HW_ => ?_)
          generalize wr.drew = w28 at HO_455001 BK454 HB hx462_0 hx462_1 hx462_2 hHeld ⊢
          refine pure_ (i := 1) (N := some 36) (v := ?_) (a' := ?_) #[false, true, false, false, false, false, false, false, false, false] rfl rfl (any_of HT_.out (by kernel_rfl)) (fun _ _ _ h => h) (Or.inl ⟨by rfl, ?_⟩) ?_ ?_
          rotate_left
          ·intro w'
           go_simp
           with_reducible rfl
          rotate_left
          ·simp only [Act.put, List.setIfInBounds_toArray, List.set_cons_zero, List.set_cons_succ, i64_w, i32_w]
           rfl
          refine pure_ (i := 2) (N := some 37) (v := ?_) (a' := ?_) #[false, true, true, false, false, false, false, false, false, false] rfl rfl (any_of HT_.out (by kernel_rfl)) (fun _ _ _ h => h) (Or.inl ⟨by rfl, ?_⟩) ?_ ?_
          rotate_left
          ·intro w'
           go_simp
           with_reducible rfl
          rotate_left
          ·simp only [Act.put, List.setIfInBounds_toArray, List.set_cons_zero, List.set_cons_succ, i64_w, i32_w]
           rfl
          refine pure_ (i := 3) (N := some 38) (v := ?_) (a' := ?_) #[false, true, true, true, false, false, false, false, false, false] rfl rfl (any_of HT_.out (by kernel_rfl)) (fun _ _ _ h => h) (Or.inl ⟨by rfl, ?_⟩) ?_ ?_
          rotate_left
          ·intro w'
           go_simp
           with_reducible rfl
          rotate_left
          ·simp only [Act.put, List.setIfInBounds_toArray, List.set_cons_zero, List.set_cons_succ, i64_w, i32_w]
           rfl
          refine take_ (i := 0) (N := some 35) (v := ?_) (a' := ?_) #[true, true, true, true, false, false, false, false, false, false] rfl rfl (take_ofW HT_.out HW_.out (by kernel_rfl)) (fun _ _ _ h => h) (Or.inl ⟨by rfl, ?_⟩) hHeld ?_ ?_
          rotate_left
          ·rintro w' ⟨s0, s1, s2, s3, s4⟩
           go_simp
           with_reducible rfl
          rotate_left
          ·simp only [Act.put, List.setIfInBounds_toArray, List.set_cons_zero, List.set_cons_succ, i64_w, i32_w]
           rfl
          refine take_ (i := 4) (N := some 39) (v := ?_) (a' := ?_) #[true, true, true, true, true, false, false, false, false, false] rfl rfl (take_ofW HT_.out HW_.out (by kernel_rfl)) (fun _ _ _ h => h) (Or.inl ⟨by rfl, ?_⟩) hHeld ?_ ?_
          rotate_left
          ·rintro w' ⟨s0, s1, s2, s3, s4⟩
           go_simp
           with_reducible rfl
          rotate_left
          ·simp only [Act.put, List.setIfInBounds_toArray, List.set_cons_zero, List.set_cons_succ, i64_w, i32_w]
           rfl
          refine one_ (i := 5) (N := some 40) #[true, true, true, true, true, true, false, false, false, false] rfl rfl (one_of HT_.out (by kernel_rfl)) (by decide) (fun K hK => ?_)
          refine goes_ Try.func21 (by kernel_rfl) rfl #[.agg #[.int .i64 x455000_2, .slice Ao29 x455001_2.length co29], .agg #[.int .i64 ((rd_T46 l1 x10_2).f0), .int .i64 ((rd_T46 l1 x10_2).f1), .int .i64 ((rd_T46 l1 x10_2).f2)]] (by rfl) rfl rfl (by (try simp only [List.map_toArray, List.map_cons, List.map_nil]); first | done | rfl | (simp only [List.length_drop, List.length_take]; rfl)) ?_
          with_reducible refine (haywainlaw11_do.calls k2 x455000_2 _ _ x455001_2 ((rd_T46 l1 x10_2).f0) ((rd_T46 l1 x10_2).f1) ((rd_T46 l1 x10_2).f2) t463 t464 t467 _ ?side1 ?side2 A27.out).mono ?_
          (case side1 => repeat (first | exact (Kd.V_reads' HO_455001.out).2.2 | (with_reducible refine Kd.C_alloc ?_ _) | (with_reducible refine Kd.C_drewN ?_ _) | (with_reducible refine Kd.C_drew ?_)))
          (case side2 => exact (Kd.V_reads' HO_455001.out).2.1)
          rintro e w30 ⟨v465, rfl, ho0, hb⟩
          refine ⟨_, rfl, ?_⟩
          have n0_ := Aside0.mk (Kd.V_elder' (by (with_reducible repeat (first | apply Kd.V_alloc | apply Kd.V_drewN | apply Kd.V_drew)); exact HO_455001.out) (Kd.R_base ho0) hb)
          have n1_ := Aside0.mk (Kd.R_lower (Kd.R_newM (M := fun k_ => (w.heap.size ≤ k_)) ho0 (below_size (by repeat (first | (with_reducible first | exact HB.out | apply below_alloc | apply pw_below_drewN | apply below_drew1 | refine below_set ?_ GE454.out) | exact HB.out))) (fun k_ h_ => h_)) (below_size (by repeat (first | (with_reducible first | exact HB.out | apply below_alloc | apply pw_below_drewN | apply below_drew1 | refine below_set ?_ GE454.out) | exact HB.out))))
          have n2_ := Aside0.mk (blk_below (g := gb454) (o := .cells #[.int .i64 x455000_2, .slice Ao29 x455001_2.length co29] 24 (0, 0)) (by (with_reducible repeat (first | refine blk_drewN ?_ _ | refine blk_drew ?_ | refine blk_alloc ?_ _)); exact BK454.out) hb)
          have n3_ := Aside0.mk (below_step (by repeat (first | (with_reducible first | exact HB.out | apply below_alloc | apply pw_below_drewN | apply below_drew1 | refine below_set ?_ GE454.out) | exact HB.out)) hb)
          clear HO_455001
          clear BK454
          clear HB
          have HO_455001 := n0_
          have HO466 := n1_
          have BK454 := n2_
          have HB := n3_
          clear n0_ n1_ n2_ n3_
          (try clear hb)
          (try clear hb2)
          (try clear hk)
          (try clear hi)
          (try clear ho0)
          obtain ⟨Ao32, co32, eo32⟩ := Kd.R_slice HO466.out
          (first | subst eo32 | (injection eo32 with f1_ f2_ f3_; have f4_ := f1_.symm; have f5_ := f3_.symm; clear f1_ f2_ f3_; subst f4_; subst f5_))
          refine hK.out _ _ ⟨(blk_cell BK454.out 0).trans rfl, (blk_cell BK454.out 1).trans rfl, ((HB.out.cell (World.block_lt_of_cell? w _ hw462_0)).trans hw462_0), ((HB.out.cell (World.block_lt_of_cell? w _ hw462_1)).trans hw462_1), ((HB.out.cell (World.block_lt_of_cell? w _ hw462_2)).trans hw462_2)⟩ (fun hHeld => ?_)
          clear hK K
          refine norm_ (a' := ?_) ?_ ?_
          rotate_left
          ·show Act.put _ (some 40) _ = _
           simp only [Act.put, List.setIfInBounds_toArray, List.set_cons_zero, List.set_cons_succ, i64_w, i32_w]
           rfl
          refine pure_ (i := 6) (N := some 34) (v := ?_) (a' := ?_) #[true, true, true, true, true, true, true, false, false, false] rfl rfl (any_of HT_.out (by kernel_rfl)) (fun _ _ _ h => h) (Or.inl ⟨by rfl, ?_⟩) ?_ ?_
          rotate_left
          ·intro w'
           go_simp
           with_reducible rfl
          rotate_left
          ·simp only [Act.put, List.setIfInBounds_toArray, List.set_cons_zero, List.set_cons_succ, i64_w, i32_w]
           rfl
          refine pure_ (i := 7) (N := some 41) (v := ?_) (a' := ?_) #[true, true, true, true, true, true, true, true, false, false] rfl rfl (any_of HT_.out (by kernel_rfl)) (fun _ _ _ h => h) (Or.inl ⟨by rfl, ?_⟩) ?_ ?_
          rotate_left
          ·intro w'
           go_simp
           with_reducible rfl
          rotate_left
          ·simp only [Act.put, List.setIfInBounds_toArray, List.set_cons_zero, List.set_cons_succ, i64_w, i32_w]
           rfl
          refine pure_ (i := 8) (N := some 42) (v := ?_) (a' := ?_) #[true, true, true, true, true, true, true, true, true, false] rfl rfl (any_of HT_.out (by kernel_rfl)) (fun _ _ _ h => h) (Or.inl ⟨by rfl, ?_⟩) ?_ ?_
          rotate_left
          ·intro w'
           go_simp
           with_reducible rfl
          rotate_left
          ·simp only [Act.put, List.setIfInBounds_toArray, List.set_cons_zero, List.set_cons_succ, i64_w, i32_w]
           rfl
          refine last_ (i := 9) (N := none) #[true, true, true, true, true, true, true, true, true, true] rfl rfl (one_of HT_.out (by kernel_rfl)) (by decide) (fun K hK => ?_)
          have hs31 : w30.cell? ⟨gb454, 0, none⟩ = some (.int .i64 x455000_2) := (blk_cell BK454.out 0).trans rfl
          have hfs31 := blk_frozen BK454.out 0
          have hs33 : w30.cell? ⟨gb454, 1, none⟩ = some (.slice Ao29 x455001_2.length co29) := (blk_cell BK454.out 1).trans rfl
          have hfs33 := blk_frozen BK454.out 1
          refine skip_ (w1 := ?_) (by rfl) rfl ?_ ?_
          rotate_left
          ·go_simp
           rfl
          refine hK.out _ _ ?_
          clear hK K
          refine done_ (done_of HT_.out (by kernel_rfl)) ?_
          try go_wp2
          go_roundg k2
          case measure => have := HJ4.out; have := HK2.out; omega
          case rel => exact ⟨(wrap64 (x10_2 + 1)), (t463), (t464), (.slice Ao32 t464.length co32), (by first | rfl | (simp; done) | (simp [*]; done)), H', ⟨by have := HJ4.out; have := HK2.out; omega⟩, ⟨Kd.V_mono (Kd.R_V (by (with_reducible repeat (first | apply Kd.R_alloc | apply Kd.R_drewN | apply Kd.R_drew)); exact (Kd.R_far (p := ⟨gb454, 1, none⟩) (Kd.R_far (p := ⟨gb454, 0, none⟩) (Kd.R_types (Kd.R_types HO466.out BK454.out (by decide)) BK454.out (by decide)) (fun _ hk => hk.2) (.int .i64 t463)) (fun _ hk => hk.2) (.slice Ao32 t464.length co32)))) (fun k_ hk => by first | exact ⟨(.inr (hk.1.1.1)), hk.1.2⟩ | exact ⟨(.inr (hk.1)), hk.2⟩ | exact (.inr (hk)))⟩, ⟨by (with_reducible repeat (first | refine blk_drewN ?_ _ | refine blk_drew ?_ | refine blk_alloc ?_ _)); refine blk_put (cs := #[.int .i64 t463, .slice Ao29 x455001_2.length co29]) ?_ 1 _ rfl; (with_reducible repeat (first | refine blk_drewN ?_ _ | refine blk_drew ?_ | refine blk_alloc ?_ _)); refine blk_put (cs := #[.int .i64 x455000_2, .slice Ao29 x455001_2.length co29]) ?_ 0 _ rfl; (with_reducible repeat (first | refine blk_drewN ?_ _ | refine blk_drew ?_ | refine blk_alloc ?_ _)); exact BK454.out⟩, ⟨by repeat (first | (with_reducible first | exact HB.out | apply below_alloc | apply pw_below_drewN | apply below_drew1 | refine below_set ?_ GE454.out) | exact HB.out)⟩⟩
         ·rw [if_neg c26] at H
          exact absurd H (by simp)
        ·rw [if_neg c25] at H
         have c25b0 : decide (x10_2 < 40) = false := decide_eq_false c25
         clear c25
         have H' := Aside0.mk H
         clear H
         go_wp2
         go_meet
         case rel => exact ⟨_, (x455000_2), (x455001_2), (u455001), H', ⟨by have := HJ4.out; have := HK2.out; first | omega | exact Nat.le_refl _⟩, ⟨by (with_reducible repeat (first | apply Kd.V_alloc | apply Kd.V_drewN | apply Kd.V_drew)); exact HO_455001.out⟩, ⟨by (with_reducible repeat (first | refine blk_drewN ?_ _ | refine blk_drew ?_ | refine blk_alloc ?_ _)); exact BK454.out⟩, ⟨by repeat (first | (with_reducible first | exact HB.out | apply below_alloc | apply pw_below_drewN | apply below_drew1 | refine below_set ?_ GE454.out) | exact HB.out)⟩⟩
       ·rw [if_neg c24] at H
        have c24b0 : decide (x10_2 < (l1.length : Int)) = false := decide_eq_false c24
        clear c24
        (first | rw [c24b0] | (simp only [i64_w, i32_w]; rw [c24b0]) | skip)
        have H' := Aside0.mk H
        clear H
        go_wp2
        go_meet
        case rel => exact ⟨_, (x455000_2), (x455001_2), (u455001), H', ⟨by have := HJ4.out; have := HK2.out; first | omega | exact Nat.le_refl _⟩, ⟨by (with_reducible repeat (first | apply Kd.V_alloc | apply Kd.V_drewN | apply Kd.V_drew)); exact HO_455001.out⟩, ⟨by (with_reducible repeat (first | refine blk_drewN ?_ _ | refine blk_drew ?_ | refine blk_alloc ?_ _)); exact BK454.out⟩, ⟨by repeat (first | (with_reducible first | exact HB.out | apply below_alloc | apply pw_below_drewN | apply below_drew1 | refine below_set ?_ GE454.out) | exact HB.out)⟩⟩
    case rest =>
     clear HC22
     try clear c1
     try clear c2
     try clear p2
     try clear p4
     try clear q4
     try clear hx4
     try clear p6
     try clear c7
     try clear c8
     try clear c9
     try clear c10
     try clear c19
     try clear c21
     try clear c24
     try clear c24b0
     try clear c25
     try clear c25b0
     try clear c26
     try clear c26b0
     try clear hcz13_0
     try clear hcz13_1
     try clear hcz15_0
     try clear hcz15_1
     try clear hcz23_0
     try clear hcz23_1
     try clear hcz9_0
     try clear hcz9_1
     try clear hfz13_0
     try clear hfz13_1
     try clear hfz15_0
     try clear hfz15_1
     try clear hfz23_0
     try clear hfz23_1
     try clear hfz9_0
     try clear hfz9_1
     try clear hx462_0
     try clear hx462_1
     try clear hx462_2
     try clear p2
     try clear p462
     try clear q462
     obtain ⟨kq, x455000_21, x455001_21, u455001, HA, HJ21, HO_455001, BK454, HB⟩ := hcut
     cases kq with
     | zero => exact absurd HA.out (by simp [haywainlaw11_ViewFences.j2])
     | succ kj21 =>
      have H := HA.out
      clear HA
      simp only [haywainlaw11_ViewFences.j2] at H
      replace H := Option.bind_eq_some_iff.mp H
      obtain ⟨t468, A340, H⟩ := H
      replace H : (if x455000_21 = a0_0 then ((view_Inc.f kj21 x455000_21 x455001_21 a2).bind fun t470 => (if t470 > a3 then (haywainlaw11_ViewFences.j3 kj21 a3 t468 t470 (decide (t470 > 0))) else (haywainlaw11_ViewFences.j3 kj21 a3 t468 t470 false))) else (if t468 = 9 then ((haywainlaw11_knows.f kj21).bind fun t469 => (some t469)) else (none))) = some r := H
      have A34 := Aside0.mk A340
      clear A340
      by_cases c35 : x455000_21 = a0_0
      ·rw [if_pos c35] at H
       have c35b0 : (x455000_21 == a0_0) = true := beq_iff_eq.mpr c35
       have c35b1 : (x455000_21 != a0_0) = false := bne_eq_false_iff_eq.mpr c35
       clear c35
       replace H := Option.bind_eq_some_iff.mp H
       obtain ⟨t470, A360, H⟩ := H
       replace H : (if t470 > a3 then (haywainlaw11_ViewFences.j3 kj21 a3 t468 t470 (decide (t470 > 0))) else (haywainlaw11_ViewFences.j3 kj21 a3 t468 t470 false)) = some r := H
       have A36 := Aside0.mk A360
       clear A360
       have HC37 := Aside0.mk H
       clear H
       have hcz38_0 : wc.cell? ⟨gb454, 0, none⟩ = some (.int .i64 x455000_21) := (blk_cell BK454.out 0).trans rfl
       have hcz38_1 : wc.cell? ⟨gb454, 1, none⟩ = some (u455001) := (blk_cell BK454.out 1).trans rfl
       have hfz38_0 := blk_frozen BK454.out 0
       have hfz38_1 := blk_frozen BK454.out 1
       obtain ⟨Ao39, co39, eo39⟩ := Kd.V_slice HO_455001.out
       subst eo39
       go_upto_region 12 with (first | ((with_reducible refine gate_callee (f := 17) rfl ?_); refine goesL_ (some 47) rfl rfl Try.func17 (by kernel_rfl) rfl #[.agg #[.int .i64 x455000_21, .slice Ao39 x455001_21.length co39], .int .i64 a0_0, .int .i64 a2, .int .i64 a3] rfl (by (try simp only [List.map_toArray, List.map_cons, List.map_nil]); first | done | rfl | (simp only [List.length_drop, List.length_take]; rfl)) ?_; (with_reducible refine (view_Fenced.calls kj21 x455000_21 _ _ x455001_21 a0_0 a2 a3 t468 _ ?side1 ?side2 A34.out).mono ?_); (case side1 => repeat (first | exact (Kd.V_reads' HO_455001.out).2.2 | (with_reducible refine Kd.C_alloc ?_ _) | (with_reducible refine Kd.C_drewN ?_ _) | (with_reducible refine Kd.C_drew ?_))); (case side2 => exact (Kd.V_reads' HO_455001.out).2.1); rintro e w40 ⟨rfl, hb⟩; refine ⟨_, rfl, ?_⟩; have n0_ := Aside0.mk (Kd.V_below (by (with_reducible repeat (first | apply Kd.V_alloc | apply Kd.V_drewN | apply Kd.V_drew)); exact HO_455001.out) hb); have n1_ := Aside0.mk (blk_below (g := gb454) (o := .cells #[.int .i64 x455000_21, .slice Ao39 x455001_21.length co39] 24 (0, 0)) (by (with_reducible repeat (first | refine blk_drewN ?_ _ | refine blk_drew ?_ | refine blk_alloc ?_ _)); exact BK454.out) hb); have n2_ := Aside0.mk (below_step (by repeat (first | (with_reducible first | exact HB.out | apply below_alloc | apply pw_below_drewN | apply below_drew1 | refine below_set ?_ GE454.out) | exact HB.out)) hb); clear HO_455001; clear BK454; clear HB; have HO_455001 := n0_; have BK454 := n1_; have HB := n2_; clear n0_ n1_ n2_; (try clear hb); (try clear hb2); (try clear hk); (try clear hi); have hcz41_0 : w40.cell? ⟨gb454, 0, none⟩ = some (.int .i64 x455000_21) := (blk_cell BK454.out 0).trans rfl; have hcz41_1 : w40.cell? ⟨gb454, 1, none⟩ = some (.slice Ao39 x455001_21.length co39) := (blk_cell BK454.out 1).trans rfl; have hfz41_0 := blk_frozen BK454.out 0; have hfz41_1 := blk_frozen BK454.out 1) | ((with_reducible refine gate_callee (f := 12) rfl ?_); refine goesL_ (some 59) rfl rfl Try.func12 (by kernel_rfl) rfl #[.agg #[.int .i64 x455000_21, .slice Ao39 x455001_21.length co39], .int .i64 a2] rfl (by (try simp only [List.map_toArray, List.map_cons, List.map_nil]); first | done | rfl | (simp only [List.length_drop, List.length_take]; rfl)) ?_; (with_reducible refine (view_Inc.calls kj21 x455000_21 _ _ x455001_21 a2 t470 _ ?side1 ?side2 A36.out).mono ?_); (case side1 => repeat (first | exact (Kd.V_reads' HO_455001.out).2.2 | (with_reducible refine Kd.C_alloc ?_ _) | (with_reducible refine Kd.C_drewN ?_ _) | (with_reducible refine Kd.C_drew ?_))); (case side2 => exact (Kd.V_reads' HO_455001.out).2.1); rintro e w42 ⟨rfl, hb⟩; refine ⟨_, rfl, ?_⟩; have n0_ := Aside0.mk (Kd.V_below (by (with_reducible repeat (first | apply Kd.V_alloc | apply Kd.V_drewN | apply Kd.V_drew)); exact HO_455001.out) hb); have n1_ := Aside0.mk (blk_below (g := gb454) (o := .cells #[.int .i64 x455000_21, .slice Ao39 x455001_21.length co39] 24 (0, 0)) (by (with_reducible repeat (first | refine blk_drewN ?_ _ | refine blk_drew ?_ | refine blk_alloc ?_ _)); exact BK454.out) hb); have n2_ := Aside0.mk (below_step (by repeat (first | (with_reducible first | exact HB.out | apply below_alloc | apply pw_below_drewN | apply below_drew1 | refine below_set ?_ GE454.out) | exact HB.out)) hb); clear HO_455001; clear BK454; clear HB; have HO_455001 := n0_; have BK454 := n1_; have HB := n2_; clear n0_ n1_ n2_; (try clear hb); (try clear hb2); (try clear hk); (try clear hi)))
       (try simp only [Act.put, List.setIfInBounds_toArray, List.set_cons_zero, List.set_cons_succ])
       go_cut [66] (fun v66 wc => ∃ (kq : Nat) (x66_36 : Bool), v66 = .bool x66_36 ∧ Aside0 (haywainlaw11_ViewFences.j3 kq a3 t468 t470 x66_36 = some r) ∧ Aside0 (kq ≤ kj21) ∧ Aside0 (Kd.V k59 59 wc w.heap.size (fun k_ => (P0_1_ k_ ∨ w.heap.size ≤ k_) ∧ k_ ≠ gb454) (.slice Ao39 x455001_21.length co39) x455001_21) ∧ Aside0 (wc.heap[gb454]? = some (.cells #[.int .i64 x455000_21, (.slice Ao39 x455001_21.length co39)] 24 (0, 0))) ∧ Aside0 (Below w.heap.size w wc))
       case first =>
        have H := HC37.out
        clear HC37
        by_cases c43 : t470 > a3
        ·rw [if_pos c43] at H
         have c43b0 : decide (a3 < t470) = true := decide_eq_true c43
         clear c43
         (first | rw [c43b0] | (simp only [i64_w, i32_w]; rw [c43b0]) | skip)
         have H' := Aside0.mk H
         clear H
         go_wp2
         go_meet
         case rel => exact ⟨_, (decide (t470 > 0)), (by first | rfl | (simp; done) | (simp [*]; done)), H', ⟨by have := HJ4.out; have := HJ21.out; first | omega | exact Nat.le_refl _⟩, ⟨by (with_reducible repeat (first | apply Kd.V_alloc | apply Kd.V_drewN | apply Kd.V_drew)); exact HO_455001.out⟩, ⟨by (with_reducible repeat (first | refine blk_drewN ?_ _ | refine blk_drew ?_ | refine blk_alloc ?_ _)); exact BK454.out⟩, ⟨by repeat (first | (with_reducible first | exact HB.out | apply below_alloc | apply pw_below_drewN | apply below_drew1 | refine below_set ?_ GE454.out) | exact HB.out)⟩⟩
        ·rw [if_neg c43] at H
         have c43b0 : decide (a3 < t470) = false := decide_eq_false c43
         clear c43
         (first | rw [c43b0] | (simp only [i64_w, i32_w]; rw [c43b0]) | skip)
         have H' := Aside0.mk H
         clear H
         go_wp2
         go_meet
         case rel => exact ⟨_, (false), (by first | rfl | (simp; done) | (simp [*]; done)), H', ⟨by have := HJ4.out; have := HJ21.out; first | omega | exact Nat.le_refl _⟩, ⟨by (with_reducible repeat (first | apply Kd.V_alloc | apply Kd.V_drewN | apply Kd.V_drew)); exact HO_455001.out⟩, ⟨by (with_reducible repeat (first | refine blk_drewN ?_ _ | refine blk_drew ?_ | refine blk_alloc ?_ _)); exact BK454.out⟩, ⟨by repeat (first | (with_reducible first | exact HB.out | apply below_alloc | apply pw_below_drewN | apply below_drew1 | refine below_set ?_ GE454.out) | exact HB.out)⟩⟩
       case rest =>
        clear HC37
        try clear c1
        try clear c2
        try clear p2
        try clear c3
        try clear c4
        try clear p4
        try clear q4
        try clear hx4
        try clear p6
        try clear c7
        try clear c8
        try clear c9
        try clear c10
        try clear c12
        try clear c17
        try clear c19
        try clear c21
        try clear c24
        try clear c24b0
        try clear c25
        try clear c25b0
        try clear c26
        try clear c26b0
        try clear c35
        try clear c35b0
        try clear c35b1
        try clear c43
        try clear c43b0
        try clear hcz13_0
        try clear hcz13_1
        try clear hcz15_0
        try clear hcz15_1
        try clear hcz23_0
        try clear hcz23_1
        try clear hcz38_0
        try clear hcz38_1
        try clear hcz41_0
        try clear hcz41_1
        try clear hcz9_0
        try clear hcz9_1
        try clear hfz13_0
        try clear hfz13_1
        try clear hfz15_0
        try clear hfz15_1
        try clear hfz23_0
        try clear hfz23_1
        try clear hfz38_0
        try clear hfz38_1
        try clear hfz41_0
        try clear hfz41_1
        try clear hfz9_0
        try clear hfz9_1
        try clear hx462_0
        try clear hx462_1
        try clear hx462_2
        try clear p2
        try clear p4
        try clear p462
        try clear p6
        try clear q4
        try clear q462
        obtain ⟨kq, x66_36, rfl, HA, HJ36, HO_455001, BK454, HB⟩ := hcut
        cases kq with
        | zero => exact absurd HA.out (by simp [haywainlaw11_ViewFences.j3])
        | succ kj36 =>
         have H := HA.out
         clear HA
         simp only [haywainlaw11_ViewFences.j3] at H
         by_cases c44 : x66_36 = true
         ·subst c44
          have H1 : (if t468 = 9 then ((haywainlaw11_knows.f kj36).bind fun t471 => (some t471)) else (none)) = some r := by rw [if_pos rfl] at H; exact H
          clear H
          have H := H1
          clear H1
          by_cases c45 : t468 = 9
          ·rw [if_pos c45] at H
           have c45b0 : (t468 == 9) = true := beq_iff_eq.mpr c45
           have c45b1 : (t468 != 9) = false := bne_eq_false_iff_eq.mpr c45
           clear c45
           replace H := Option.bind_eq_some_iff.mp H
           obtain ⟨t471, A460, H⟩ := H
           replace H : (some t471) = some r := H
           have A46 := Aside0.mk A460
           clear A460
           obtain rfl := Option.some.inj H
           go_wp2_with (first | (go_at_call 10; (with_reducible refine (haywainlaw11_knows.calls kj36  t471 _ A46.out).mono ?_); rintro e w47 ⟨rfl, hb⟩; have n0_ := Aside0.mk (Kd.V_below (by (with_reducible repeat (first | apply Kd.V_alloc | apply Kd.V_drewN | apply Kd.V_drew)); exact HO_455001.out) hb); have n1_ := Aside0.mk (blk_below (g := gb454) (o := .cells #[.int .i64 x455000_21, .slice Ao39 x455001_21.length co39] 24 (0, 0)) (by (with_reducible repeat (first | refine blk_drewN ?_ _ | refine blk_drew ?_ | refine blk_alloc ?_ _)); exact BK454.out) hb); have n2_ := Aside0.mk (below_step (by repeat (first | (with_reducible first | exact HB.out | apply below_alloc | apply pw_below_drewN | apply below_drew1 | refine below_set ?_ GE454.out) | exact HB.out)) hb); clear HO_455001; clear BK454; clear HB; have HO_455001 := n0_; have BK454 := n1_; have HB := n2_; clear n0_ n1_ n2_; (try clear hb); (try clear hb2); (try clear hk); (try clear hi)))
           go_ret
           exact ⟨by first | rfl | (simp [errW_none, errW_some] <;> rfl) | (simp [*, errW_none, errW_some] <;> rfl), by repeat (first | (with_reducible first | exact HB.out | apply below_alloc | apply pw_below_drewN | apply below_drew1 | refine below_set ?_ GE454.out) | exact HB.out)⟩
          ·rw [if_neg c45] at H
           exact absurd H (by simp)
         ·replace c44 := Bool.eq_false_iff.mpr c44
          subst c44
          have H1 : (if t470 = a3 then (if ((t468 == 0) == (decide (t470 > 0))) = true then ((haywainlaw11_knows.f kj36).bind fun t472 => (some t472)) else (none)) else (if ((t468 == 0) == false) = true then ((haywainlaw11_knows.f kj36).bind fun t473 => (some t473)) else (none))) = some r := by rw [if_neg (show ¬ (false = true) by decide)] at H; exact H
          clear H
          have H := H1
          clear H1
          by_cases c48 : t470 = a3
          ·rw [if_pos c48] at H
           have c48b0 : (t470 == a3) = true := beq_iff_eq.mpr c48
           have c48b1 : (t470 != a3) = false := bne_eq_false_iff_eq.mpr c48
           clear c48
           by_cases c49 : ((t468 == 0) == (decide (t470 > 0))) = true
           ·rw [if_pos c49] at H
            have c49b0 : ((t468 == 0) == (decide (t470 > 0))) = true := c49
            (try (have c49b1 : decide ((t468 == 0) = (decide (t470 > 0))) = true := by simpa using c49))
            (try (have c49b2 : ((t468 == 0) == (decide (t470 > 0))) = true := by simpa using c49))
            clear c49
            replace H := Option.bind_eq_some_iff.mp H
            obtain ⟨t472, A500, H⟩ := H
            replace H : (some t472) = some r := H
            have A50 := Aside0.mk A500
            clear A500
            obtain rfl := Option.some.inj H
            go_wp2_with (first | (go_at_call 10; (with_reducible refine (haywainlaw11_knows.calls kj36  t472 _ A50.out).mono ?_); rintro e w51 ⟨rfl, hb⟩; have n0_ := Aside0.mk (Kd.V_below (by (with_reducible repeat (first | apply Kd.V_alloc | apply Kd.V_drewN | apply Kd.V_drew)); exact HO_455001.out) hb); have n1_ := Aside0.mk (blk_below (g := gb454) (o := .cells #[.int .i64 x455000_21, .slice Ao39 x455001_21.length co39] 24 (0, 0)) (by (with_reducible repeat (first | refine blk_drewN ?_ _ | refine blk_drew ?_ | refine blk_alloc ?_ _)); exact BK454.out) hb); have n2_ := Aside0.mk (below_step (by repeat (first | (with_reducible first | exact HB.out | apply below_alloc | apply pw_below_drewN | apply below_drew1 | refine below_set ?_ GE454.out) | exact HB.out)) hb); clear HO_455001; clear BK454; clear HB; have HO_455001 := n0_; have BK454 := n1_; have HB := n2_; clear n0_ n1_ n2_; (try clear hb); (try clear hb2); (try clear hk); (try clear hi)))
            go_ret
            exact ⟨by first | rfl | (simp [errW_none, errW_some] <;> rfl) | (simp [*, errW_none, errW_some] <;> rfl), by repeat (first | (with_reducible first | exact HB.out | apply below_alloc | apply pw_below_drewN | apply below_drew1 | refine below_set ?_ GE454.out) | exact HB.out)⟩
           ·rw [if_neg c49] at H
            exact absurd H (by simp)
          ·rw [if_neg c48] at H
           have c48b0 : (t470 == a3) = false := beq_eq_false_iff_ne.mpr c48
           have c48b1 : (t470 != a3) = true := bne_iff_ne.mpr c48
           by_cases c52 : ((t468 == 0) == false) = true
           ·rw [if_pos c52] at H
            have c52b0 : ((t468 == 0) == false) = true := c52
            (try (have c52b1 : decide ((t468 == 0) = false) = true := by simpa using c52))
            (try (have c52b2 : ((t468 == 0) == false) = true := by simpa using c52))
            clear c52
            replace H := Option.bind_eq_some_iff.mp H
            obtain ⟨t473, A530, H⟩ := H
            replace H : (some t473) = some r := H
            have A53 := Aside0.mk A530
            clear A530
            obtain rfl := Option.some.inj H
            go_wp2_with (first | (go_at_call 10; (with_reducible refine (haywainlaw11_knows.calls kj36  t473 _ A53.out).mono ?_); rintro e w54 ⟨rfl, hb⟩; have n0_ := Aside0.mk (Kd.V_below (by (with_reducible repeat (first | apply Kd.V_alloc | apply Kd.V_drewN | apply Kd.V_drew)); exact HO_455001.out) hb); have n1_ := Aside0.mk (blk_below (g := gb454) (o := .cells #[.int .i64 x455000_21, .slice Ao39 x455001_21.length co39] 24 (0, 0)) (by (with_reducible repeat (first | refine blk_drewN ?_ _ | refine blk_drew ?_ | refine blk_alloc ?_ _)); exact BK454.out) hb); have n2_ := Aside0.mk (below_step (by repeat (first | (with_reducible first | exact HB.out | apply below_alloc | apply pw_below_drewN | apply below_drew1 | refine below_set ?_ GE454.out) | exact HB.out)) hb); clear HO_455001; clear BK454; clear HB; have HO_455001 := n0_; have BK454 := n1_; have HB := n2_; clear n0_ n1_ n2_; (try clear hb); (try clear hb2); (try clear hk); (try clear hi)))
            go_ret
            exact ⟨by first | rfl | (simp [errW_none, errW_some] <;> rfl) | (simp [*, errW_none, errW_some] <;> rfl), by repeat (first | (with_reducible first | exact HB.out | apply below_alloc | apply pw_below_drewN | apply below_drew1 | refine below_set ?_ GE454.out) | exact HB.out)⟩
           ·rw [if_neg c52] at H
            exact absurd H (by simp)
      ·rw [if_neg c35] at H
       have c35b0 : (x455000_21 == a0_0) = false := beq_eq_false_iff_ne.mpr c35
       have c35b1 : (x455000_21 != a0_0) = true := bne_iff_ne.mpr c35
       by_cases c55 : t468 = 9
       ·rw [if_pos c55] at H
        have c55b0 : (t468 == 9) = true := beq_iff_eq.mpr c55
        have c55b1 : (t468 != 9) = false := bne_eq_false_iff_eq.mpr c55
        clear c55
        replace H := Option.bind_eq_some_iff.mp H
        obtain ⟨t469, A560, H⟩ := H
        replace H : (some t469) = some r := H
        have A56 := Aside0.mk A560
        clear A560
        obtain rfl := Option.some.inj H
        have hcz57_0 : wc.cell? ⟨gb454, 0, none⟩ = some (.int .i64 x455000_21) := (blk_cell BK454.out 0).trans rfl
        have hcz57_1 : wc.cell? ⟨gb454, 1, none⟩ = some (u455001) := (blk_cell BK454.out 1).trans rfl
        have hfz57_0 := blk_frozen BK454.out 0
        have hfz57_1 := blk_frozen BK454.out 1
        obtain ⟨Ao58, co58, eo58⟩ := Kd.V_slice HO_455001.out
        subst eo58
        go_wp2_with (first | ((with_reducible refine gate_callee (f := 17) rfl ?_); refine goesL_ (some 47) rfl rfl Try.func17 (by kernel_rfl) rfl #[.agg #[.int .i64 x455000_21, .slice Ao58 x455001_21.length co58], .int .i64 a0_0, .int .i64 a2, .int .i64 a3] rfl (by (try simp only [List.map_toArray, List.map_cons, List.map_nil]); first | done | rfl | (simp only [List.length_drop, List.length_take]; rfl)) ?_; (with_reducible refine (view_Fenced.calls kj21 x455000_21 _ _ x455001_21 a0_0 a2 a3 t468 _ ?side1 ?side2 A34.out).mono ?_); (case side1 => repeat (first | exact (Kd.V_reads' HO_455001.out).2.2 | (with_reducible refine Kd.C_alloc ?_ _) | (with_reducible refine Kd.C_drewN ?_ _) | (with_reducible refine Kd.C_drew ?_))); (case side2 => exact (Kd.V_reads' HO_455001.out).2.1); rintro e w59 ⟨rfl, hb⟩; refine ⟨_, rfl, ?_⟩; have n0_ := Aside0.mk (Kd.V_below (by (with_reducible repeat (first | apply Kd.V_alloc | apply Kd.V_drewN | apply Kd.V_drew)); exact HO_455001.out) hb); have n1_ := Aside0.mk (blk_below (g := gb454) (o := .cells #[.int .i64 x455000_21, .slice Ao58 x455001_21.length co58] 24 (0, 0)) (by (with_reducible repeat (first | refine blk_drewN ?_ _ | refine blk_drew ?_ | refine blk_alloc ?_ _)); exact BK454.out) hb); have n2_ := Aside0.mk (below_step (by repeat (first | (with_reducible first | exact HB.out | apply below_alloc | apply pw_below_drewN | apply below_drew1 | refine below_set ?_ GE454.out) | exact HB.out)) hb); clear HO_455001; clear BK454; clear HB; have HO_455001 := n0_; have BK454 := n1_; have HB := n2_; clear n0_ n1_ n2_; (try clear hb); (try clear hb2); (try clear hk); (try clear hi); have hcz60_0 : w59.cell? ⟨gb454, 0, none⟩ = some (.int .i64 x455000_21) := (blk_cell BK454.out 0).trans rfl; have hcz60_1 : w59.cell? ⟨gb454, 1, none⟩ = some (.slice Ao58 x455001_21.length co58) := (blk_cell BK454.out 1).trans rfl; have hfz60_0 := blk_frozen BK454.out 0; have hfz60_1 := blk_frozen BK454.out 1) | (go_at_call 10; (with_reducible refine (haywainlaw11_knows.calls kj21  t469 _ A56.out).mono ?_); rintro e w61 ⟨rfl, hb⟩; have n0_ := Aside0.mk (Kd.V_below (by (with_reducible repeat (first | apply Kd.V_alloc | apply Kd.V_drewN | apply Kd.V_drew)); exact HO_455001.out) hb); have n1_ := Aside0.mk (blk_below (g := gb454) (o := .cells #[.int .i64 x455000_21, .slice Ao58 x455001_21.length co58] 24 (0, 0)) (by (with_reducible repeat (first | refine blk_drewN ?_ _ | refine blk_drew ?_ | refine blk_alloc ?_ _)); exact BK454.out) hb); have n2_ := Aside0.mk (below_step (by repeat (first | (with_reducible first | exact HB.out | apply below_alloc | apply pw_below_drewN | apply below_drew1 | refine below_set ?_ GE454.out) | exact HB.out)) hb); clear HO_455001; clear BK454; clear HB; have HO_455001 := n0_; have BK454 := n1_; have HB := n2_; clear n0_ n1_ n2_; (try clear hb); (try clear hb2); (try clear hk); (try clear hi)))
        go_ret
        exact ⟨by first | rfl | (simp [errW_none, errW_some] <;> rfl) | (simp [*, errW_none, errW_some] <;> rfl), by repeat (first | (with_reducible first | exact HB.out | apply below_alloc | apply pw_below_drewN | apply below_drew1 | refine below_set ?_ GE454.out) | exact HB.out)⟩
       ·rw [if_neg c55] at H
        exact absurd H (by simp)

def okT59_ViewFences (x : S59) : Prop := ((Lit.int .i64 x.f0).wf = true) ∧ ((Lit.int .i64 x.f1).wf = true)
def okT24_ViewFences (x : S24) : Prop := ((Lit.int .i64 x.f0).wf = true) ∧ ((x.f1.length ≤ maxLen ∧ x.f1.length * 16 ≤ 140737488351232 ∧ ∀ a ∈ x.f1, okT59_ViewFences a))
def okT46_ViewFences (x : S46) : Prop := ((Lit.int .i64 x.f0).wf = true) ∧ ((Lit.int .i64 x.f1).wf = true) ∧ ((Lit.int .i64 x.f2).wf = true)
/-- THE ONE PURE STATEMENT of haywainlaw11_ViewFences: yours. -/
def haywainlaw11_ViewFences.Pure : Prop := ∀ (a0_0 : Int) (l0_1 : List (S59)) (l1 : List (S46)) (a2 : Int) (a3 : Int), (Lit.int .i64 a0_0).wf = true → (l0_1.length ≤ maxLen ∧ l0_1.length * 16 ≤ 140737488351232 ∧ ∀ a ∈ l0_1, okT59_ViewFences a) → (l1.length ≤ maxLen ∧ l1.length * 24 ≤ 140737488351232 ∧ ∀ a ∈ l1, okT46_ViewFences a) → (Lit.int .i64 a2).wf = true → (Lit.int .i64 a3).wf = true → ∃ k, haywainlaw11_ViewFences.f k a0_0 l0_1 l1 a2 a3 = some true

end Go.Proofs.Ytgfaejkgkhdihaa.PView
