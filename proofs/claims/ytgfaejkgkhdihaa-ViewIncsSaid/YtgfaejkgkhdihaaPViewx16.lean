-- Printed for this claim by a turned copy of the print (wip/tools/patch.py); a text of this session, not of print.sh.
import Derived.Test.YtgfaejkgkhdihaaPViewx0
import Derived.Test.YtgfaejkgkhdihaaPViewx3
import Derived.Test.YtgfaejkgkhdihaaPViewx6
import Derived.Test.YtgfaejkgkhdihaaPViewx8
namespace Go.Proofs.Ytgfaejkgkhdihaa.PView
open Go.RowKit Go.Proofs.YtgfaejkgkhdihaaW.PrintWords Go.Proofs.YtgfaejkgkhdihaaW.PrintLast Go.Proofs.YtgfaejkgkhdihaaW.PrintMore
attribute [local go_sem] max2_int min2_int max_two min_two max_three min_three max_four min_four   -- for this text's walks alone
set_option linter.unusedVariables false
set_option linter.unusedSimpArgs false

/-! ### haywainlaw11_ViewIncs: function 8 -/
mutual
def haywainlaw11_ViewIncs.l0 : Nat → List (S46) → Int → Int → Int → Int → List (S59) → Option (Bool)
 | 0, _, _, _, _, _, _ => none
 | k + 1, x1, x2, x7, x8, x475000, x475001 => if x8 < (x1.length : Int) then (haywainlaw11_ViewIncs.j1 k x1 x2 x7 x8 (decide (x8 < 40)) x475000 x475001) else (haywainlaw11_ViewIncs.j1 k x1 x2 x7 x8 false x475000 x475001)
def haywainlaw11_ViewIncs.j1 : Nat → List (S46) → Int → Int → Int → Bool → Int → List (S59) → Option (Bool)
 | 0, _, _, _, _, _, _, _ => none
 | k + 1, x1, x2, x7, x8, x23, x475000, x475001 => if x23 = true then (if 0 ≤ x8 then (if x8 < (x1.length : Int) then ((haywainlaw11_do.f k x475000 x475001 ((rd_T46 x1 x8).f0) ((rd_T46 x1 x8).f1) ((rd_T46 x1 x8).f2)).bind fun bt480 => ((view_Inc.f k bt480.1 bt480.2.1 x2).bind fun t485 => (if t485 = 0 then (haywainlaw11_ViewIncs.l0 k x1 x2 t485 (wrap64 (x8 + 1)) bt480.1 bt480.2.1) else (if t485 < x7 then (none) else (haywainlaw11_ViewIncs.l0 k x1 x2 t485 (wrap64 (x8 + 1)) bt480.1 bt480.2.1))))) else (none)) else (none)) else ((haywainlaw11_knows.f k).bind fun t478 => (some t478))
end
def haywainlaw11_ViewIncs.f (k : Nat) (a0_0 : Int) (l0_1 : List (S59)) (l1 : List (S46)) (a2 : Int) : Option (Bool) := (haywainlaw11_great.f a0_0 l0_1).bind fun t475 => (if t475 = true then ((haywainlaw11_knows.f k).bind fun t476 => (some t476)) else ((view_Inc.f k a0_0 l0_1 a2).bind fun t477 => (haywainlaw11_ViewIncs.l0 k l1 a2 t477 0 a0_0 l0_1)))
theorem haywainlaw11_ViewIncs.mono_l : ∀ k, (∀ y0 y1 y2 y3 y4 y5, LeO (haywainlaw11_ViewIncs.l0 k y0 y1 y2 y3 y4 y5) (haywainlaw11_ViewIncs.l0 (k + 1) y0 y1 y2 y3 y4 y5)) ∧ (∀ y0 y1 y2 y3 y4 y5 y6, LeO (haywainlaw11_ViewIncs.j1 k y0 y1 y2 y3 y4 y5 y6) (haywainlaw11_ViewIncs.j1 (k + 1) y0 y1 y2 y3 y4 y5 y6))
 | 0 => ⟨fun _ _ _ _ _ _ r h => by simp [haywainlaw11_ViewIncs.l0] at h, fun _ _ _ _ _ _ _ r h => by simp [haywainlaw11_ViewIncs.j1] at h⟩
 | k + 1 => by
  obtain ⟨ih0, ih1⟩ := haywainlaw11_ViewIncs.mono_l k
  refine ⟨?_, ?_⟩
  ·intro y0 y1 y2 y3 y4 y5
   unfold haywainlaw11_ViewIncs.l0
   repeat' first
   | (with_reducible exact ih0 _ _ _ _ _ _)
   | (with_reducible exact ih1 _ _ _ _ _ _ _)
   | (with_reducible exact haywainlaw11_do.mono _ _ _ _ _ _)
   | (with_reducible exact haywainlaw11_knows.mono _)
   | (with_reducible exact view_Inc.mono _ _ _ _)
   | (with_reducible exact LeO.refl _)
   | (with_reducible exact LeO.none _)
   | (with_reducible refine LeO.ite ?_ ?_)
   | (with_reducible refine LeO.bind ?_ (fun _ => ?_))
   | exact ih0 _ _ _ _ _ _
   | exact ih1 _ _ _ _ _ _ _
   | exact haywainlaw11_do.mono _ _ _ _ _ _
   | exact haywainlaw11_knows.mono _
   | exact view_Inc.mono _ _ _ _
   | exact LeO.none _
   | refine LeO.ite ?_ ?_
   | refine LeO.bind ?_ (fun _ => ?_)
  ·intro y0 y1 y2 y3 y4 y5 y6
   unfold haywainlaw11_ViewIncs.j1
   repeat' first
   | (with_reducible exact ih0 _ _ _ _ _ _)
   | (with_reducible exact ih1 _ _ _ _ _ _ _)
   | (with_reducible exact haywainlaw11_do.mono _ _ _ _ _ _)
   | (with_reducible exact haywainlaw11_knows.mono _)
   | (with_reducible exact view_Inc.mono _ _ _ _)
   | (with_reducible exact LeO.refl _)
   | (with_reducible exact LeO.none _)
   | (with_reducible refine LeO.ite ?_ ?_)
   | (with_reducible refine LeO.bind ?_ (fun _ => ?_))
   | exact ih0 _ _ _ _ _ _
   | exact ih1 _ _ _ _ _ _ _
   | exact haywainlaw11_do.mono _ _ _ _ _ _
   | exact haywainlaw11_knows.mono _
   | exact view_Inc.mono _ _ _ _
   | exact LeO.none _
   | refine LeO.ite ?_ ?_
   | refine LeO.bind ?_ (fun _ => ?_)
theorem haywainlaw11_ViewIncs.mono : ∀ a0 a1 a2 a3 k, LeO (haywainlaw11_ViewIncs.f k a0 a1 a2 a3) (haywainlaw11_ViewIncs.f (k + 1) a0 a1 a2 a3) := by
 intro a0 a1 a2 a3 k
 obtain ⟨ih0, ih1⟩ := haywainlaw11_ViewIncs.mono_l k
 unfold haywainlaw11_ViewIncs.f
 repeat' first
   | (with_reducible exact ih0 _ _ _ _ _ _)
   | (with_reducible exact ih1 _ _ _ _ _ _ _)
   | (with_reducible exact haywainlaw11_do.mono _ _ _ _ _ _)
   | (with_reducible exact haywainlaw11_knows.mono _)
   | (with_reducible exact view_Inc.mono _ _ _ _)
   | (with_reducible exact LeO.refl _)
   | (with_reducible exact LeO.none _)
   | (with_reducible refine LeO.ite ?_ ?_)
   | (with_reducible refine LeO.bind ?_ (fun _ => ?_))
   | exact ih0 _ _ _ _ _ _
   | exact ih1 _ _ _ _ _ _ _
   | exact haywainlaw11_do.mono _ _ _ _ _ _
   | exact haywainlaw11_knows.mono _
   | exact view_Inc.mono _ _ _ _
   | exact LeO.none _
   | refine LeO.ite ?_ ?_
   | refine LeO.bind ?_ (fun _ => ?_)
def haywainlaw11_ViewIncs.T7 : Bool × List (List Nat × List Nat) := (true, [([], []), ([], []), ([], []), ([1, 2], [1, 2]), ([3], [3]), ([0, 4], [0, 4]), ([5], [5]), ([6], [6]), ([6], [6]), ([7, 5, 0, 1, 2, 3, 4, 5, 6, 7], [7])])
def haywainlaw11_ViewIncs.B7 : List Nat := [0, 0, 0, 6, 14, 31, 63, 127, 127, 255]
theorem haywainlaw11_ViewIncs.tab7 : rtab .any (opsOf Try.f8 7) = haywainlaw11_ViewIncs.T7 := by kernel_rfl
theorem haywainlaw11_ViewIncs.bits7 : waitsOk haywainlaw11_ViewIncs.T7.2 haywainlaw11_ViewIncs.B7 = true := by kernel_rfl
set_option maxHeartbeats 8000000 in
set_option maxRecDepth 100000 in
theorem haywainlaw11_ViewIncs.calls (k : Nat) (a0_0 : Int) (P0_1_ : Nat → Prop) (A0_1 : Option Addr) (c0_1 : Nat) (l0_1 : List (S59)) (A1 : Option Addr) (c1 : Nat) (l1 : List (S46)) (a2 : Int) (r : Bool) (w : World) (hs0_1 : Kd.V k59 59 w w.heap.size (fun k_ => P0_1_ k_) (.slice A0_1 l0_1.length c0_1) l0_1) (hr1 : Kd.C k46 w A1 l1.length l1) (hc1 : l1.length ≤ c1) (h : haywainlaw11_ViewIncs.f k a0_0 l0_1 l1 a2 = some r) :
  Calls Try.prog 8 #[.agg #[.int .i64 a0_0, .slice A0_1 l0_1.length c0_1], .slice A1 l1.length c1, .int .i64 a2] w fun e w' => e = .returned (.bool r) ∧ Below w.heap.size w w' := by
 have hu24 := Try.underlying24
 have hu46 := Try.underlying46
 have HO0_1 := Aside0.mk (show Kd.V k59 59 w w.heap.size (fun k_ => (P0_1_ k_ ∨ w.heap.size ≤ k_)) (.slice A0_1 l0_1.length c0_1) l0_1 from Kd.V_mono hs0_1 (fun k_ hk => .inl hk))
 have HR1 := Aside0.mk hr1
 have HC1 := Aside0.mk hc1
 clear hr1 hc1
 have HB := Aside0.mk (Below.refl w.heap.size w)
 have H : ((haywainlaw11_great.f a0_0 l0_1).bind fun t475 => (if t475 = true then ((haywainlaw11_knows.f k).bind fun t476 => (some t476)) else ((view_Inc.f k a0_0 l0_1 a2).bind fun t477 => (haywainlaw11_ViewIncs.l0 k l1 a2 t477 0 a0_0 l0_1)))) = some r := h
 clear h
 replace H := Option.bind_eq_some_iff.mp H
 obtain ⟨t475, A40, H⟩ := H
 replace H : (if t475 = true then ((haywainlaw11_knows.f k).bind fun t476 => (some t476)) else ((view_Inc.f k a0_0 l0_1 a2).bind fun t477 => (haywainlaw11_ViewIncs.l0 k l1 a2 t477 0 a0_0 l0_1))) = some r := H
 have A4 := Aside0.mk A40
 clear A40
 by_cases c5 : t475 = true
 ·subst c5
  have H1 : ((haywainlaw11_knows.f k).bind fun t476 => (some t476)) = some r := by rw [if_pos rfl] at H; exact H
  clear H
  have H := H1
  clear H1
  replace H := Option.bind_eq_some_iff.mp H
  obtain ⟨t476, A60, H⟩ := H
  replace H : (some t476) = some r := H
  have A6 := Aside0.mk A60
  clear A60
  obtain rfl := Option.some.inj H
  go_enter Try.func8, Try.ntmps8
  go_wp2_with (first | ((with_reducible refine gate_dst (N := 3) rfl ?_); refine box_event ?hg (N := 3) ?hd (cs := #[.int .i64 a0_0, .slice A0_1 l0_1.length c0_1]) (t := 24) ?hr ?_; (case hd => rfl); (case hg => rfl); (case hr => first | (go_simp; done) | (go_simp; rfl)); intro gb474 hg w7 hbox hb; have n0_ := Aside0.mk (Kd.V_below (Kd.V_elderB (by (with_reducible repeat (first | apply Kd.V_alloc | apply Kd.V_drewN | apply Kd.V_drew)); exact HO0_1.out) gb474 (Nat.le_of_eq hg.symm)) hb); have n1_ := Aside0.mk (below_step (by repeat (first | (with_reducible first | exact HB.out | apply below_alloc | apply pw_below_drewN | apply below_drew1) | exact HB.out)) hb); have n2_ := Aside0.mk (hbox); have n3_ := Aside0.mk ((by rw [hg]; exact (below_size (by repeat (first | (with_reducible first | exact HB.out | apply below_alloc | apply pw_below_drewN | apply below_drew1) | exact HB.out))) : w.heap.size ≤ gb474)); have n4_ := Aside0.mk ((by rw [hg]; exact (below_size (by repeat (first | (with_reducible first | exact HB.out | apply below_alloc | apply pw_below_drewN | apply below_drew1) | exact HB.out))) : w.heap.size ≤ gb474)); clear HO0_1; clear HB; have HO0_1 := n0_; have HB := n1_; have BK474 := n2_; have GW474 := n3_; have GE474 := n4_; clear n0_ n1_ n2_ n3_ n4_; clear hb hbox hg; have hcz8_0 : w7.cell? ⟨gb474, 0, none⟩ = some (.int .i64 a0_0) := (blk_cell BK474.out 0).trans rfl; have hcz8_1 : w7.cell? ⟨gb474, 1, none⟩ = some (.slice A0_1 l0_1.length c0_1) := (blk_cell BK474.out 1).trans rfl; have hfz8_0 := blk_frozen BK474.out 0; have hfz8_1 := blk_frozen BK474.out 1) | ((with_reducible refine gate_callee (f := 9) rfl ?_); refine goesL_ (some 11) rfl rfl Try.func9 (by kernel_rfl) rfl #[.agg #[.int .i64 a0_0, .slice A0_1 l0_1.length c0_1]] rfl (by (try simp only [List.map_toArray, List.map_cons, List.map_nil]); first | done | rfl | (simp only [List.length_drop, List.length_take]; rfl)) ?_; (with_reducible refine (haywainlaw11_great.calls a0_0 _ _ l0_1 true _ ?side1 ?side2 A4.out).mono ?_); (case side1 => repeat (first | exact (Kd.V_reads' HO0_1.out).2.2 | (with_reducible refine Kd.C_alloc ?_ _) | (with_reducible refine Kd.C_drewN ?_ _) | (with_reducible refine Kd.C_drew ?_))); (case side2 => exact (Kd.V_reads' HO0_1.out).2.1); rintro e w9 ⟨rfl, hb⟩; refine ⟨_, rfl, ?_⟩; have n0_ := Aside0.mk (Kd.V_below (by (with_reducible repeat (first | apply Kd.V_alloc | apply Kd.V_drewN | apply Kd.V_drew)); exact HO0_1.out) hb); have n1_ := Aside0.mk (blk_below (g := gb474) (o := .cells #[.int .i64 a0_0, .slice A0_1 l0_1.length c0_1] 24 (0, 0)) (by (with_reducible repeat (first | refine blk_drewN ?_ _ | refine blk_drew ?_ | refine blk_alloc ?_ _)); exact BK474.out) hb); have n2_ := Aside0.mk (below_step (by repeat (first | (with_reducible first | exact HB.out | apply below_alloc | apply pw_below_drewN | apply below_drew1 | refine below_set ?_ GE474.out) | exact HB.out)) hb); clear HO0_1; clear BK474; clear HB; have HO0_1 := n0_; have BK474 := n1_; have HB := n2_; clear n0_ n1_ n2_; (try clear hb); (try clear hb2); (try clear hk); (try clear hi)) | ((with_reducible refine gate_callee (f := 10) rfl ?_); refine goesL_ (some 12) rfl rfl Try.func10 (by kernel_rfl) rfl #[] rfl (by (try simp only [List.map_toArray, List.map_cons, List.map_nil]); first | done | rfl | (simp only [List.length_drop, List.length_take]; rfl)) ?_; (with_reducible refine (haywainlaw11_knows.calls k  t476 _ A6.out).mono ?_); rintro e w10 ⟨rfl, hb⟩; refine ⟨_, rfl, ?_⟩; have n0_ := Aside0.mk (Kd.V_below (by (with_reducible repeat (first | apply Kd.V_alloc | apply Kd.V_drewN | apply Kd.V_drew)); exact HO0_1.out) hb); have n1_ := Aside0.mk (blk_below (g := gb474) (o := .cells #[.int .i64 a0_0, .slice A0_1 l0_1.length c0_1] 24 (0, 0)) (by (with_reducible repeat (first | refine blk_drewN ?_ _ | refine blk_drew ?_ | refine blk_alloc ?_ _)); exact BK474.out) hb); have n2_ := Aside0.mk (below_step (by repeat (first | (with_reducible first | exact HB.out | apply below_alloc | apply pw_below_drewN | apply below_drew1 | refine below_set ?_ GE474.out) | exact HB.out)) hb); clear HO0_1; clear BK474; clear HB; have HO0_1 := n0_; have BK474 := n1_; have HB := n2_; clear n0_ n1_ n2_; (try clear hb); (try clear hb2); (try clear hk); (try clear hi)))
  go_ret
  exact ⟨by first | rfl | (simp [errW_none, errW_some] <;> rfl) | (simp [*, errW_none, errW_some] <;> rfl), by repeat (first | (with_reducible first | exact HB.out | apply below_alloc | apply pw_below_drewN | apply below_drew1 | refine below_set ?_ GE474.out) | exact HB.out)⟩
 ·replace c5 := Bool.eq_false_iff.mpr c5
  subst c5
  have H1 : ((view_Inc.f k a0_0 l0_1 a2).bind fun t477 => (haywainlaw11_ViewIncs.l0 k l1 a2 t477 0 a0_0 l0_1)) = some r := by rw [if_neg (show ¬ (false = true) by decide)] at H; exact H
  clear H
  have H := H1
  clear H1
  replace H := Option.bind_eq_some_iff.mp H
  obtain ⟨t477, A110, H⟩ := H
  replace H : (haywainlaw11_ViewIncs.l0 k l1 a2 t477 0 a0_0 l0_1) = some r := H
  have A11 := Aside0.mk A110
  clear A110
  have H' := Aside0.mk H
  clear H
  go_enter Try.func8, Try.ntmps8
  go_wp2_with (first | ((with_reducible refine gate_dst (N := 3) rfl ?_); refine box_event ?hg (N := 3) ?hd (cs := #[.int .i64 a0_0, .slice A0_1 l0_1.length c0_1]) (t := 24) ?hr ?_; (case hd => rfl); (case hg => rfl); (case hr => first | (go_simp; done) | (go_simp; rfl)); intro gb474 hg w12 hbox hb; have n0_ := Aside0.mk (Kd.V_below (Kd.V_elderB (by (with_reducible repeat (first | apply Kd.V_alloc | apply Kd.V_drewN | apply Kd.V_drew)); exact HO0_1.out) gb474 (Nat.le_of_eq hg.symm)) hb); have n1_ := Aside0.mk (below_step (by repeat (first | (with_reducible first | exact HB.out | apply below_alloc | apply pw_below_drewN | apply below_drew1) | exact HB.out)) hb); have n2_ := Aside0.mk (hbox); have n3_ := Aside0.mk ((by rw [hg]; exact (below_size (by repeat (first | (with_reducible first | exact HB.out | apply below_alloc | apply pw_below_drewN | apply below_drew1) | exact HB.out))) : w.heap.size ≤ gb474)); have n4_ := Aside0.mk ((by rw [hg]; exact (below_size (by repeat (first | (with_reducible first | exact HB.out | apply below_alloc | apply pw_below_drewN | apply below_drew1) | exact HB.out))) : w.heap.size ≤ gb474)); clear HO0_1; clear HB; have HO0_1 := n0_; have HB := n1_; have BK474 := n2_; have GW474 := n3_; have GE474 := n4_; clear n0_ n1_ n2_ n3_ n4_; clear hb hbox hg; have hcz13_0 : w12.cell? ⟨gb474, 0, none⟩ = some (.int .i64 a0_0) := (blk_cell BK474.out 0).trans rfl; have hcz13_1 : w12.cell? ⟨gb474, 1, none⟩ = some (.slice A0_1 l0_1.length c0_1) := (blk_cell BK474.out 1).trans rfl; have hfz13_0 := blk_frozen BK474.out 0; have hfz13_1 := blk_frozen BK474.out 1) | ((with_reducible refine gate_callee (f := 9) rfl ?_); refine goesL_ (some 11) rfl rfl Try.func9 (by kernel_rfl) rfl #[.agg #[.int .i64 a0_0, .slice A0_1 l0_1.length c0_1]] rfl (by (try simp only [List.map_toArray, List.map_cons, List.map_nil]); first | done | rfl | (simp only [List.length_drop, List.length_take]; rfl)) ?_; (with_reducible refine (haywainlaw11_great.calls a0_0 _ _ l0_1 false _ ?side1 ?side2 A4.out).mono ?_); (case side1 => repeat (first | exact (Kd.V_reads' HO0_1.out).2.2 | (with_reducible refine Kd.C_alloc ?_ _) | (with_reducible refine Kd.C_drewN ?_ _) | (with_reducible refine Kd.C_drew ?_))); (case side2 => exact (Kd.V_reads' HO0_1.out).2.1); rintro e w14 ⟨rfl, hb⟩; refine ⟨_, rfl, ?_⟩; have n0_ := Aside0.mk (Kd.V_below (by (with_reducible repeat (first | apply Kd.V_alloc | apply Kd.V_drewN | apply Kd.V_drew)); exact HO0_1.out) hb); have n1_ := Aside0.mk (blk_below (g := gb474) (o := .cells #[.int .i64 a0_0, .slice A0_1 l0_1.length c0_1] 24 (0, 0)) (by (with_reducible repeat (first | refine blk_drewN ?_ _ | refine blk_drew ?_ | refine blk_alloc ?_ _)); exact BK474.out) hb); have n2_ := Aside0.mk (below_step (by repeat (first | (with_reducible first | exact HB.out | apply below_alloc | apply pw_below_drewN | apply below_drew1 | refine below_set ?_ GE474.out) | exact HB.out)) hb); clear HO0_1; clear BK474; clear HB; have HO0_1 := n0_; have BK474 := n1_; have HB := n2_; clear n0_ n1_ n2_; (try clear hb); (try clear hb2); (try clear hk); (try clear hi); have hcz15_0 : w14.cell? ⟨gb474, 0, none⟩ = some (.int .i64 a0_0) := (blk_cell BK474.out 0).trans rfl; have hcz15_1 : w14.cell? ⟨gb474, 1, none⟩ = some (.slice A0_1 l0_1.length c0_1) := (blk_cell BK474.out 1).trans rfl; have hfz15_0 := blk_frozen BK474.out 0; have hfz15_1 := blk_frozen BK474.out 1) | ((with_reducible refine gate_callee (f := 12) rfl ?_); refine goesL_ (some 15) rfl rfl Try.func12 (by kernel_rfl) rfl #[.agg #[.int .i64 a0_0, .slice A0_1 l0_1.length c0_1], .int .i64 a2] rfl (by (try simp only [List.map_toArray, List.map_cons, List.map_nil]); first | done | rfl | (simp only [List.length_drop, List.length_take]; rfl)) ?_; (with_reducible refine (view_Inc.calls k a0_0 _ _ l0_1 a2 t477 _ ?side1 ?side2 A11.out).mono ?_); (case side1 => repeat (first | exact (Kd.V_reads' HO0_1.out).2.2 | (with_reducible refine Kd.C_alloc ?_ _) | (with_reducible refine Kd.C_drewN ?_ _) | (with_reducible refine Kd.C_drew ?_))); (case side2 => exact (Kd.V_reads' HO0_1.out).2.1); rintro e w16 ⟨rfl, hb⟩; refine ⟨_, rfl, ?_⟩; have n0_ := Aside0.mk (Kd.V_below (by (with_reducible repeat (first | apply Kd.V_alloc | apply Kd.V_drewN | apply Kd.V_drew)); exact HO0_1.out) hb); have n1_ := Aside0.mk (blk_below (g := gb474) (o := .cells #[.int .i64 a0_0, .slice A0_1 l0_1.length c0_1] 24 (0, 0)) (by (with_reducible repeat (first | refine blk_drewN ?_ _ | refine blk_drew ?_ | refine blk_alloc ?_ _)); exact BK474.out) hb); have n2_ := Aside0.mk (below_step (by repeat (first | (with_reducible first | exact HB.out | apply below_alloc | apply pw_below_drewN | apply below_drew1 | refine below_set ?_ GE474.out) | exact HB.out)) hb); clear HO0_1; clear BK474; clear HB; have HO0_1 := n0_; have BK474 := n1_; have HB := n2_; clear n0_ n1_ n2_; (try clear hb); (try clear hb2); (try clear hk); (try clear hi)))
  go_loopg [7, 8] k (fun kq v7 v8 w' => ∃ (x7_1 : Int) (x8_1 : Int) (x475000_1 : Int) (x475001_1 : List (S59)) (u475001 : Value), v7 = .int .i64 x7_1 ∧ v8 = .int .i64 x8_1 ∧ Aside0 (haywainlaw11_ViewIncs.l0 kq l1 a2 x7_1 x8_1 x475000_1 x475001_1 = some r) ∧ Aside0 (kq ≤ k) ∧ Aside0 (Kd.V k59 59 w' w.heap.size (fun k_ => (P0_1_ k_ ∨ w.heap.size ≤ k_) ∧ k_ ≠ gb474) u475001 x475001_1) ∧ Aside0 (w'.heap[gb474]? = some (.cells #[.int .i64 x475000_1, u475001] 24 (0, 0))) ∧ Aside0 (Below w.heap.size w w'))
  case atStart => exact ⟨(t477), (0), (a0_0), (l0_1), (.slice A0_1 l0_1.length c0_1), (by first | rfl | (simp; done) | (simp [*]; done)), (by first | rfl | (simp; done) | (simp [*]; done)), H', ⟨Nat.le_refl _⟩, ⟨by (with_reducible repeat (first | apply Kd.V_alloc | apply Kd.V_drewN | apply Kd.V_drew)); exact HO0_1.out⟩, ⟨by (with_reducible repeat (first | refine blk_drewN ?_ _ | refine blk_drew ?_ | refine blk_alloc ?_ _)); exact BK474.out⟩, ⟨by repeat (first | (with_reducible first | exact HB.out | apply below_alloc | apply pw_below_drewN | apply below_drew1 | refine below_set ?_ GE474.out) | exact HB.out)⟩⟩
  case round =>
   clear H'
   try clear c1
   try clear p2
   try clear c5
   try clear c8
   try clear c9
   try clear c10
   try clear c12
   try clear hcz13_0
   try clear hcz13_1
   try clear hcz15_0
   try clear hcz15_1
   try clear hcz8_0
   try clear hcz8_1
   try clear hfz13_0
   try clear hfz13_1
   try clear hfz15_0
   try clear hfz15_1
   try clear hfz8_0
   try clear hfz8_1
   obtain ⟨x7_1, x8_1, x475000_1, x475001_1, u475001, rfl, rfl, HA, HK1, HO_475001, BK474, HB⟩ := hrel
   cases gk with
   | zero => exact absurd HA.out (by simp [haywainlaw11_ViewIncs.l0])
   | succ k1 =>
    have H := HA.out
    clear HA
    simp only [haywainlaw11_ViewIncs.l0] at H
    have HC17 := Aside0.mk H
    clear H
    go_upto_region 5 with (fail)
    go_cut [23] (fun v23 wc => ∃ (kq : Nat) (x23_16 : Bool), v23 = .bool x23_16 ∧ Aside0 (haywainlaw11_ViewIncs.j1 kq l1 a2 x7_1 x8_1 x23_16 x475000_1 x475001_1 = some r) ∧ Aside0 (kq ≤ k1) ∧ Aside0 (Kd.V k59 59 wc w.heap.size (fun k_ => (P0_1_ k_ ∨ w.heap.size ≤ k_) ∧ k_ ≠ gb474) u475001 x475001_1) ∧ Aside0 (wc.heap[gb474]? = some (.cells #[.int .i64 x475000_1, u475001] 24 (0, 0))) ∧ Aside0 (Below w.heap.size w wc))
    case first =>
     have H := HC17.out
     clear HC17
     by_cases c18 : x8_1 < (l1.length : Int)
     ·rw [if_pos c18] at H
      have c18b0 : decide (x8_1 < (l1.length : Int)) = true := decide_eq_true c18
      clear c18
      (first | rw [c18b0] | (simp only [i64_w, i32_w]; rw [c18b0]) | skip)
      have H' := Aside0.mk H
      clear H
      go_wp2
      go_meet
      case rel => exact ⟨_, (decide (x8_1 < 40)), (by first | rfl | (simp; done) | (simp [*]; done)), H', ⟨by have := HK1.out; first | omega | exact Nat.le_refl _⟩, ⟨by (with_reducible repeat (first | apply Kd.V_alloc | apply Kd.V_drewN | apply Kd.V_drew)); exact HO_475001.out⟩, ⟨by (with_reducible repeat (first | refine blk_drewN ?_ _ | refine blk_drew ?_ | refine blk_alloc ?_ _)); exact BK474.out⟩, ⟨by repeat (first | (with_reducible first | exact HB.out | apply below_alloc | apply pw_below_drewN | apply below_drew1 | refine below_set ?_ GE474.out) | exact HB.out)⟩⟩
     ·rw [if_neg c18] at H
      have c18b0 : decide (x8_1 < (l1.length : Int)) = false := decide_eq_false c18
      clear c18
      (first | rw [c18b0] | (simp only [i64_w, i32_w]; rw [c18b0]) | skip)
      have H' := Aside0.mk H
      clear H
      go_wp2
      go_meet
      case rel => exact ⟨_, (false), (by first | rfl | (simp; done) | (simp [*]; done)), H', ⟨by have := HK1.out; first | omega | exact Nat.le_refl _⟩, ⟨by (with_reducible repeat (first | apply Kd.V_alloc | apply Kd.V_drewN | apply Kd.V_drew)); exact HO_475001.out⟩, ⟨by (with_reducible repeat (first | refine blk_drewN ?_ _ | refine blk_drew ?_ | refine blk_alloc ?_ _)); exact BK474.out⟩, ⟨by repeat (first | (with_reducible first | exact HB.out | apply below_alloc | apply pw_below_drewN | apply below_drew1 | refine below_set ?_ GE474.out) | exact HB.out)⟩⟩
    case rest =>
     clear HC17
     try clear c1
     try clear p2
     try clear c5
     try clear c8
     try clear c9
     try clear c10
     try clear c12
     try clear c18
     try clear c18b0
     try clear hcz13_0
     try clear hcz13_1
     try clear hcz15_0
     try clear hcz15_1
     try clear hcz8_0
     try clear hcz8_1
     try clear hfz13_0
     try clear hfz13_1
     try clear hfz15_0
     try clear hfz15_1
     try clear hfz8_0
     try clear hfz8_1
     try clear p2
     obtain ⟨kq, x23_16, rfl, HA, HJ16, HO_475001, BK474, HB⟩ := hcut
     cases kq with
     | zero => exact absurd HA.out (by simp [haywainlaw11_ViewIncs.j1])
     | succ kj16 =>
      have H := HA.out
      clear HA
      simp only [haywainlaw11_ViewIncs.j1] at H
      by_cases c19 : x23_16 = true
      ·subst c19
       have H1 : (if 0 ≤ x8_1 then (if x8_1 < (l1.length : Int) then ((haywainlaw11_do.f kj16 x475000_1 x475001_1 ((rd_T46 l1 x8_1).f0) ((rd_T46 l1 x8_1).f1) ((rd_T46 l1 x8_1).f2)).bind fun bt480 => ((view_Inc.f kj16 bt480.1 bt480.2.1 a2).bind fun t485 => (if t485 = 0 then (haywainlaw11_ViewIncs.l0 kj16 l1 a2 t485 (wrap64 (x8_1 + 1)) bt480.1 bt480.2.1) else (if t485 < x7_1 then (none) else (haywainlaw11_ViewIncs.l0 kj16 l1 a2 t485 (wrap64 (x8_1 + 1)) bt480.1 bt480.2.1))))) else (none)) else (none)) = some r := by rw [if_pos rfl] at H; exact H
       clear H
       have H := H1
       clear H1
       by_cases c20 : 0 ≤ x8_1
       ·rw [if_pos c20] at H
        have c20b0 : decide (0 ≤ x8_1) = true := decide_eq_true c20
        clear c20
        by_cases c21 : x8_1 < (l1.length : Int)
        ·rw [if_pos c21] at H
         have c21b0 : decide (x8_1 < (l1.length : Int)) = true := decide_eq_true c21
         clear c21
         replace H := Option.bind_eq_some_iff.mp H
         obtain ⟨⟨t480, t481, t484⟩, A220, H⟩ := H
         replace H : ((view_Inc.f kj16 t480 t481 a2).bind fun t485 => (if t485 = 0 then (haywainlaw11_ViewIncs.l0 kj16 l1 a2 t485 (wrap64 (x8_1 + 1)) t480 t481) else (if t485 < x7_1 then (none) else (haywainlaw11_ViewIncs.l0 kj16 l1 a2 t485 (wrap64 (x8_1 + 1)) t480 t481)))) = some r := H
         have A22 := Aside0.mk A220
         clear A220
         replace H := Option.bind_eq_some_iff.mp H
         obtain ⟨t485, A230, H⟩ := H
         replace H : (if t485 = 0 then (haywainlaw11_ViewIncs.l0 kj16 l1 a2 t485 (wrap64 (x8_1 + 1)) t480 t481) else (if t485 < x7_1 then (none) else (haywainlaw11_ViewIncs.l0 kj16 l1 a2 t485 (wrap64 (x8_1 + 1)) t480 t481))) = some r := H
         have A23 := Aside0.mk A230
         clear A230
         by_cases c24 : t485 = 0
         ·rw [if_pos c24] at H
          have c24b0 : (t485 == 0) = true := beq_iff_eq.mpr c24
          have c24b1 : (t485 != 0) = false := bne_eq_false_iff_eq.mpr c24
          clear c24
          have H' := Aside0.mk H
          clear H
          try go_wp2
          have n0_ := Aside0.mk (Kd.V_drew HO_475001.out)
          have n1_ := Aside0.mk (blk_drew BK474.out)
          have n2_ := Aside0.mk (below_drew1 HB.out)
          clear HO_475001
          clear BK474
          clear HB
          have HO_475001 := n0_
          have BK474 := n1_
          have HB := n2_
          clear n0_ n1_ n2_
          have p479 : 0 ≤ (x8_1 : Int) := of_decide_eq_true (by first | (with_reducible assumption) | assumption)
          have q479 : x8_1 < (l1.length : Int) := of_decide_eq_true (by first | (with_reducible assumption) | assumption)
          obtain ⟨ad479, e479, hx479_0, hx479_1, hx479_2⟩ := at_T46 HR1.out x8_1 p479 q479
          have hw479_2 := hx479_2
          have hw479_1 := hx479_1
          have hw479_0 := hx479_0
          cases e479
          replace hx479_0 := (HB.out.cell (World.block_lt_of_cell? w _ hx479_0)).trans hx479_0
          replace hx479_1 := (HB.out.cell (World.block_lt_of_cell? w _ hx479_1)).trans hx479_1
          replace hx479_2 := (HB.out.cell (World.block_lt_of_cell? w _ hx479_2)).trans hx479_2
          replace p479 := eq_true p479
          replace q479 := eq_true q479
          obtain ⟨Ao26, co26, eo26⟩ := Kd.V_slice HO_475001.out
          (first | subst eo26 | (injection eo26 with f1_ f2_ f3_; have f4_ := f1_.symm; have f5_ := f3_.symm; clear f1_ f2_ f3_; subst f4_; subst f5_))
          refine start_ (n := 10) (S := fun w' => w'.cell? ⟨gb474, 0, none⟩ = some (.int .i64 x475000_1) ∧ w'.cell? ⟨gb474, 1, none⟩ = some (.slice Ao26 x475001_1.length co26) ∧ w'.cell? (ad479.add ((x8_1).toNat * 3)) = some (.int .i64 ((rd_T46 l1 x8_1).f0)) ∧ w'.cell? ⟨(ad479.add ((x8_1).toNat * 3)).block, (ad479.add ((x8_1).toNat * 3)).off + 1, none⟩ = some (.int .i64 ((rd_T46 l1 x8_1).f1)) ∧ w'.cell? ⟨(ad479.add ((x8_1).toNat * 3)).block, (ad479.add ((x8_1).toNat * 3)).off + 2, none⟩ = some (.int .i64 ((rd_T46 l1 x8_1).f2))) (ds := [9]) #[false, false, false, false, false, false, false, false, false, false] (by kernel_rfl) rfl rfl ⟨(blk_cell BK474.out 0).trans rfl, (blk_cell BK474.out 1).trans rfl, ((HB.out.cell (World.block_lt_of_cell? w _ hw479_0)).trans hw479_0), ((HB.out.cell (World.block_lt_of_cell? w _ hw479_1)).trans hw479_1), ((HB.out.cell (World.block_lt_of_cell? w _ hw479_2)).trans hw479_2)⟩ (fun hHeld => ?_); refine with_tabW haywainlaw11_ViewIncs.tab7 haywainlaw11_ViewIncs.bits7 (fun HT_ HW_ => ?_)
          generalize wc.drew = w25 at HO_475001 BK474 HB hx479_0 hx479_1 hx479_2 hHeld ⊢
          refine pure_ (i := 1) (N := some 28) (v := ?_) (a' := ?_) #[false, true, false, false, false, false, false, false, false, false] rfl rfl (any_of HT_.out (by kernel_rfl)) (fun _ _ _ h => h) (Or.inl ⟨by rfl, ?_⟩) ?_ ?_
          rotate_left
          ·intro w'
           go_simp
           with_reducible rfl
          rotate_left
          ·simp only [Act.put, List.setIfInBounds_toArray, List.set_cons_zero, List.set_cons_succ, i64_w, i32_w]
           rfl
          refine pure_ (i := 2) (N := some 29) (v := ?_) (a' := ?_) #[false, true, true, false, false, false, false, false, false, false] rfl rfl (any_of HT_.out (by kernel_rfl)) (fun _ _ _ h => h) (Or.inl ⟨by rfl, ?_⟩) ?_ ?_
          rotate_left
          ·intro w'
           go_simp
           with_reducible rfl
          rotate_left
          ·simp only [Act.put, List.setIfInBounds_toArray, List.set_cons_zero, List.set_cons_succ, i64_w, i32_w]
           rfl
          refine pure_ (i := 3) (N := some 30) (v := ?_) (a' := ?_) #[false, true, true, true, false, false, false, false, false, false] rfl rfl (any_of HT_.out (by kernel_rfl)) (fun _ _ _ h => h) (Or.inl ⟨by rfl, ?_⟩) ?_ ?_
          rotate_left
          ·intro w'
           go_simp
           with_reducible rfl
          rotate_left
          ·simp only [Act.put, List.setIfInBounds_toArray, List.set_cons_zero, List.set_cons_succ, i64_w, i32_w]
           rfl
          refine take_ (i := 0) (N := some 27) (v := ?_) (a' := ?_) #[true, true, true, true, false, false, false, false, false, false] rfl rfl (take_ofW HT_.out HW_.out (by kernel_rfl)) (fun _ _ _ h => h) (Or.inl ⟨by rfl, ?_⟩) hHeld ?_ ?_
          rotate_left
          ·rintro w' ⟨s0, s1, s2, s3, s4⟩
           go_simp
           with_reducible rfl
          rotate_left
          ·simp only [Act.put, List.setIfInBounds_toArray, List.set_cons_zero, List.set_cons_succ, i64_w, i32_w]
           rfl
          refine take_ (i := 4) (N := some 31) (v := ?_) (a' := ?_) #[true, true, true, true, true, false, false, false, false, false] rfl rfl (take_ofW HT_.out HW_.out (by kernel_rfl)) (fun _ _ _ h => h) (Or.inl ⟨by rfl, ?_⟩) hHeld ?_ ?_
          rotate_left
          ·rintro w' ⟨s0, s1, s2, s3, s4⟩
           go_simp
           with_reducible rfl
          rotate_left
          ·simp only [Act.put, List.setIfInBounds_toArray, List.set_cons_zero, List.set_cons_succ, i64_w, i32_w]
           rfl
          refine one_ (i := 5) (N := some 32) #[true, true, true, true, true, true, false, false, false, false] rfl rfl (one_of HT_.out (by kernel_rfl)) (by decide) (fun K hK => ?_)
          refine goes_ Try.func21 (by kernel_rfl) rfl #[.agg #[.int .i64 x475000_1, .slice Ao26 x475001_1.length co26], .agg #[.int .i64 ((rd_T46 l1 x8_1).f0), .int .i64 ((rd_T46 l1 x8_1).f1), .int .i64 ((rd_T46 l1 x8_1).f2)]] (by rfl) rfl rfl (by (try simp only [List.map_toArray, List.map_cons, List.map_nil]); first | done | rfl | (simp only [List.length_drop, List.length_take]; rfl)) ?_
          with_reducible refine (haywainlaw11_do.calls kj16 x475000_1 _ _ x475001_1 ((rd_T46 l1 x8_1).f0) ((rd_T46 l1 x8_1).f1) ((rd_T46 l1 x8_1).f2) t480 t481 t484 _ ?side1 ?side2 A22.out).mono ?_
          (case side1 => repeat (first | exact (Kd.V_reads' HO_475001.out).2.2 | (with_reducible refine Kd.C_alloc ?_ _) | (with_reducible refine Kd.C_drewN ?_ _) | (with_reducible refine Kd.C_drew ?_)))
          (case side2 => exact (Kd.V_reads' HO_475001.out).2.1)
          rintro e w27 ⟨v482, rfl, ho0, hb⟩
          refine ⟨_, rfl, ?_⟩
          have n0_ := Aside0.mk (Kd.V_elder' (by (with_reducible repeat (first | apply Kd.V_alloc | apply Kd.V_drewN | apply Kd.V_drew)); exact HO_475001.out) (Kd.R_base ho0) hb)
          have n1_ := Aside0.mk (Kd.R_lower (Kd.R_newM (M := fun k_ => (w.heap.size ≤ k_)) ho0 (below_size (by repeat (first | (with_reducible first | exact HB.out | apply below_alloc | apply pw_below_drewN | apply below_drew1 | refine below_set ?_ GE474.out) | exact HB.out))) (fun k_ h_ => h_)) (below_size (by repeat (first | (with_reducible first | exact HB.out | apply below_alloc | apply pw_below_drewN | apply below_drew1 | refine below_set ?_ GE474.out) | exact HB.out))))
          have n2_ := Aside0.mk (blk_below (g := gb474) (o := .cells #[.int .i64 x475000_1, .slice Ao26 x475001_1.length co26] 24 (0, 0)) (by (with_reducible repeat (first | refine blk_drewN ?_ _ | refine blk_drew ?_ | refine blk_alloc ?_ _)); exact BK474.out) hb)
          have n3_ := Aside0.mk (below_step (by repeat (first | (with_reducible first | exact HB.out | apply below_alloc | apply pw_below_drewN | apply below_drew1 | refine below_set ?_ GE474.out) | exact HB.out)) hb)
          clear HO_475001
          clear BK474
          clear HB
          have HO_475001 := n0_
          have HO483 := n1_
          have BK474 := n2_
          have HB := n3_
          clear n0_ n1_ n2_ n3_
          (try clear hb)
          (try clear hb2)
          (try clear hk)
          (try clear hi)
          (try clear ho0)
          obtain ⟨Ao29, co29, eo29⟩ := Kd.R_slice HO483.out
          (first | subst eo29 | (injection eo29 with f1_ f2_ f3_; have f4_ := f1_.symm; have f5_ := f3_.symm; clear f1_ f2_ f3_; subst f4_; subst f5_))
          refine hK.out _ _ ⟨(blk_cell BK474.out 0).trans rfl, (blk_cell BK474.out 1).trans rfl, ((HB.out.cell (World.block_lt_of_cell? w _ hw479_0)).trans hw479_0), ((HB.out.cell (World.block_lt_of_cell? w _ hw479_1)).trans hw479_1), ((HB.out.cell (World.block_lt_of_cell? w _ hw479_2)).trans hw479_2)⟩ (fun hHeld => ?_)
          clear hK K
          refine norm_ (a' := ?_) ?_ ?_
          rotate_left
          ·show Act.put _ (some 32) _ = _
           simp only [Act.put, List.setIfInBounds_toArray, List.set_cons_zero, List.set_cons_succ, i64_w, i32_w]
           rfl
          refine pure_ (i := 6) (N := some 26) (v := ?_) (a' := ?_) #[true, true, true, true, true, true, true, false, false, false] rfl rfl (any_of HT_.out (by kernel_rfl)) (fun _ _ _ h => h) (Or.inl ⟨by rfl, ?_⟩) ?_ ?_
          rotate_left
          ·intro w'
           go_simp
           with_reducible rfl
          rotate_left
          ·simp only [Act.put, List.setIfInBounds_toArray, List.set_cons_zero, List.set_cons_succ, i64_w, i32_w]
           rfl
          refine pure_ (i := 7) (N := some 33) (v := ?_) (a' := ?_) #[true, true, true, true, true, true, true, true, false, false] rfl rfl (any_of HT_.out (by kernel_rfl)) (fun _ _ _ h => h) (Or.inl ⟨by rfl, ?_⟩) ?_ ?_
          rotate_left
          ·intro w'
           go_simp
           with_reducible rfl
          rotate_left
          ·simp only [Act.put, List.setIfInBounds_toArray, List.set_cons_zero, List.set_cons_succ, i64_w, i32_w]
           rfl
          refine pure_ (i := 8) (N := some 34) (v := ?_) (a' := ?_) #[true, true, true, true, true, true, true, true, true, false] rfl rfl (any_of HT_.out (by kernel_rfl)) (fun _ _ _ h => h) (Or.inl ⟨by rfl, ?_⟩) ?_ ?_
          rotate_left
          ·intro w'
           go_simp
           with_reducible rfl
          rotate_left
          ·simp only [Act.put, List.setIfInBounds_toArray, List.set_cons_zero, List.set_cons_succ, i64_w, i32_w]
           rfl
          refine last_ (i := 9) (N := none) #[true, true, true, true, true, true, true, true, true, true] rfl rfl (one_of HT_.out (by kernel_rfl)) (by decide) (fun K hK => ?_)
          have hs28 : w27.cell? ⟨gb474, 0, none⟩ = some (.int .i64 x475000_1) := (blk_cell BK474.out 0).trans rfl
          have hfs28 := blk_frozen BK474.out 0
          have hs30 : w27.cell? ⟨gb474, 1, none⟩ = some (.slice Ao26 x475001_1.length co26) := (blk_cell BK474.out 1).trans rfl
          have hfs30 := blk_frozen BK474.out 1
          refine skip_ (w1 := ?_) (by rfl) rfl ?_ ?_
          rotate_left
          ·go_simp
           rfl
          refine hK.out _ _ ?_
          clear hK K
          refine done_ (done_of HT_.out (by kernel_rfl)) ?_
          have hcz31_0 : w27.cell? ⟨gb474, 0, none⟩ = some (.int .i64 x475000_1) := (blk_cell BK474.out 0).trans rfl
          have hcz31_1 : w27.cell? ⟨gb474, 1, none⟩ = some (.slice Ao26 x475001_1.length co26) := (blk_cell BK474.out 1).trans rfl
          have hfz31_0 := blk_frozen BK474.out 0
          have hfz31_1 := blk_frozen BK474.out 1
          try go_wp2_with (first | ((with_reducible refine gate_callee (f := 12) rfl ?_); refine goesL_ (some 37) rfl rfl Try.func12 (by kernel_rfl) rfl #[.agg #[.int .i64 t480, .slice Ao29 t481.length co29], .int .i64 a2] rfl (by (try simp only [List.map_toArray, List.map_cons, List.map_nil]); first | done | rfl | (simp only [List.length_drop, List.length_take]; rfl)) ?_; (with_reducible refine (view_Inc.calls kj16 t480 _ _ t481 a2 t485 _ ?side1 ?side2 A23.out).mono ?_); (case side1 => refine (Kd.R_reads' (e := 59) (base := w.heap.size) (ok := fun k_ => (((w.heap.size ≤ k_)) ∧ True)) (n := t481.length) (c := co29) ?_).2.2; exact (by (with_reducible repeat (first | apply Kd.R_alloc | apply Kd.R_drewN | apply Kd.R_drew)); exact (Kd.R_mono (Kd.R_far (p := ⟨gb474, 1, none⟩) (Kd.R_far (p := ⟨gb474, 0, none⟩) (Kd.R_types HO483.out BK474.out (by decide)) (fun _ hk => hk.2) (.int .i64 t480)) (fun _ hk => hk.2) (.slice Ao29 t481.length co29)) (fun _ h_ => h_.1)))); (case side2 => exact (Kd.R_reads' HO483.out).2.1); rintro e w32 ⟨rfl, hb⟩; refine ⟨_, rfl, ?_⟩; have n0_ := Aside0.mk (Kd.V_below (by (with_reducible repeat (first | apply Kd.V_alloc | apply Kd.V_drewN | apply Kd.V_drew)); exact (Kd.V_mono (Kd.V_far (p := ⟨gb474, 1, none⟩) (Kd.V_far (p := ⟨gb474, 0, none⟩) (Kd.V_mono HO_475001.out (fun k_ hk => (⟨hk, hk.1.2⟩ : _ ∧ k_ ≠ gb474))) (fun _ hk => hk.2) (.int .i64 t480)) (fun _ hk => hk.2) (.slice Ao29 t481.length co29)) (fun _ h_ => h_.1))) hb); have n1_ := Aside0.mk (Kd.R_below (by (with_reducible repeat (first | apply Kd.R_alloc | apply Kd.R_drewN | apply Kd.R_drew)); exact (Kd.R_mono (Kd.R_far (p := ⟨gb474, 1, none⟩) (Kd.R_far (p := ⟨gb474, 0, none⟩) (Kd.R_types HO483.out BK474.out (by decide)) (fun _ hk => hk.2) (.int .i64 t480)) (fun _ hk => hk.2) (.slice Ao29 t481.length co29)) (fun _ h_ => h_.1))) hb); have n2_ := Aside0.mk (blk_below (g := gb474) (o := .cells #[.int .i64 t480, .slice Ao29 t481.length co29] 24 (0, 0)) (by (with_reducible repeat (first | refine blk_drewN ?_ _ | refine blk_drew ?_ | refine blk_alloc ?_ _)); refine blk_put (cs := #[.int .i64 t480, .slice Ao26 x475001_1.length co26]) ?_ 1 _ rfl; (with_reducible repeat (first | refine blk_drewN ?_ _ | refine blk_drew ?_ | refine blk_alloc ?_ _)); refine blk_put (cs := #[.int .i64 x475000_1, .slice Ao26 x475001_1.length co26]) ?_ 0 _ rfl; (with_reducible repeat (first | refine blk_drewN ?_ _ | refine blk_drew ?_ | refine blk_alloc ?_ _)); exact BK474.out) hb); have n3_ := Aside0.mk (below_step (by repeat (first | (with_reducible first | exact HB.out | apply below_alloc | apply pw_below_drewN | apply below_drew1 | refine below_set ?_ GE474.out) | exact HB.out)) hb); clear HO_475001; clear HO483; clear BK474; clear HB; have HO_475001 := n0_; have HO483 := n1_; have BK474 := n2_; have HB := n3_; clear n0_ n1_ n2_ n3_; (try clear hb); (try clear hb2); (try clear hk); (try clear hi)))
          go_roundg kj16
          case measure => have := HK1.out; have := HJ16.out; omega
          case rel => exact ⟨(t485), (wrap64 (x8_1 + 1)), (t480), (t481), (.slice Ao29 t481.length co29), (by first | rfl | (simp; done) | (simp [*]; done)), (by first | rfl | (simp; done) | (simp [*]; done)), H', ⟨by have := HK1.out; have := HJ16.out; omega⟩, ⟨Kd.V_mono (Kd.R_V (by (with_reducible repeat (first | apply Kd.R_alloc | apply Kd.R_drewN | apply Kd.R_drew)); exact (Kd.R_types HO483.out BK474.out (by decide)))) (fun k_ hk => by first | exact ⟨(.inr (hk.1.1)), hk.2⟩ | exact ⟨(.inr (hk.1)), hk.2⟩ | exact (.inr (hk)))⟩, ⟨by (with_reducible repeat (first | refine blk_drewN ?_ _ | refine blk_drew ?_ | refine blk_alloc ?_ _)); exact BK474.out⟩, ⟨by repeat (first | (with_reducible first | exact HB.out | apply below_alloc | apply pw_below_drewN | apply below_drew1 | refine below_set ?_ GE474.out) | exact HB.out)⟩⟩
         ·rw [if_neg c24] at H
          have c24b0 : (t485 == 0) = false := beq_eq_false_iff_ne.mpr c24
          have c24b1 : (t485 != 0) = true := bne_iff_ne.mpr c24
          by_cases c33 : t485 < x7_1
          ·rw [if_pos c33] at H
           exact absurd H (by simp)
          ·rw [if_neg c33] at H
           have c33b0 : decide (t485 < x7_1) = false := decide_eq_false c33
           clear c33
           have H' := Aside0.mk H
           clear H
           try go_wp2
           have n0_ := Aside0.mk (Kd.V_drew HO_475001.out)
           have n1_ := Aside0.mk (blk_drew BK474.out)
           have n2_ := Aside0.mk (below_drew1 HB.out)
           clear HO_475001
           clear BK474
           clear HB
           have HO_475001 := n0_
           have BK474 := n1_
           have HB := n2_
           clear n0_ n1_ n2_
           have p479 : 0 ≤ (x8_1 : Int) := of_decide_eq_true (by first | (with_reducible assumption) | assumption)
           have q479 : x8_1 < (l1.length : Int) := of_decide_eq_true (by first | (with_reducible assumption) | assumption)
           obtain ⟨ad479, e479, hx479_0, hx479_1, hx479_2⟩ := at_T46 HR1.out x8_1 p479 q479
           have hw479_2 := hx479_2
           have hw479_1 := hx479_1
           have hw479_0 := hx479_0
           cases e479
           replace hx479_0 := (HB.out.cell (World.block_lt_of_cell? w _ hx479_0)).trans hx479_0
           replace hx479_1 := (HB.out.cell (World.block_lt_of_cell? w _ hx479_1)).trans hx479_1
           replace hx479_2 := (HB.out.cell (World.block_lt_of_cell? w _ hx479_2)).trans hx479_2
           replace p479 := eq_true p479
           replace q479 := eq_true q479
           obtain ⟨Ao35, co35, eo35⟩ := Kd.V_slice HO_475001.out
           (first | subst eo35 | (injection eo35 with f1_ f2_ f3_; have f4_ := f1_.symm; have f5_ := f3_.symm; clear f1_ f2_ f3_; subst f4_; subst f5_))
           refine start_ (n := 10) (S := fun w' => w'.cell? ⟨gb474, 0, none⟩ = some (.int .i64 x475000_1) ∧ w'.cell? ⟨gb474, 1, none⟩ = some (.slice Ao35 x475001_1.length co35) ∧ w'.cell? (ad479.add ((x8_1).toNat * 3)) = some (.int .i64 ((rd_T46 l1 x8_1).f0)) ∧ w'.cell? ⟨(ad479.add ((x8_1).toNat * 3)).block, (ad479.add ((x8_1).toNat * 3)).off + 1, none⟩ = some (.int .i64 ((rd_T46 l1 x8_1).f1)) ∧ w'.cell? ⟨(ad479.add ((x8_1).toNat * 3)).block, (ad479.add ((x8_1).toNat * 3)).off + 2, none⟩ = some (.int .i64 ((rd_T46 l1 x8_1).f2))) (ds := [9]) #[false, false, false, false, false, false, false, false, false, false] (by kernel_rfl) rfl rfl ⟨(blk_cell BK474.out 0).trans rfl, (blk_cell BK474.out 1).trans rfl, ((HB.out.cell (World.block_lt_of_cell? w _ hw479_0)).trans hw479_0), ((HB.out.cell (World.block_lt_of_cell? w _ hw479_1)).trans hw479_1), ((HB.out.cell (World.block_lt_of_cell? w _ hw479_2)).trans hw479_2)⟩ (fun hHeld => ?_); refine with_tabW haywainlaw11_ViewIncs.tab7 haywainlaw11_ViewIncs.bits7 (fun HT_ HW_ => ?_)
           generalize wc.drew = w34 at HO_475001 BK474 HB hx479_0 hx479_1 hx479_2 hHeld ⊢
           refine pure_ (i := 1) (N := some 28) (v := ?_) (a' := ?_) #[false, true, false, false, false, false, false, false, false, false] rfl rfl (any_of HT_.out (by kernel_rfl)) (fun _ _ _ h => h) (Or.inl ⟨by rfl, ?_⟩) ?_ ?_
           rotate_left
           ·intro w'
            go_simp
            with_reducible rfl
           rotate_left
           ·simp only [Act.put, List.setIfInBounds_toArray, List.set_cons_zero, List.set_cons_succ, i64_w, i32_w]
            rfl
           refine pure_ (i := 2) (N := some 29) (v := ?_) (a' := ?_) #[false, true, true, false, false, false, false, false, false, false] rfl rfl (any_of HT_.out (by kernel_rfl)) (fun _ _ _ h => h) (Or.inl ⟨by rfl, ?_⟩) ?_ ?_
           rotate_left
           ·intro w'
            go_simp
            with_reducible rfl
           rotate_left
           ·simp only [Act.put, List.setIfInBounds_toArray, List.set_cons_zero, List.set_cons_succ, i64_w, i32_w]
            rfl
           refine pure_ (i := 3) (N := some 30) (v := ?_) (a' := ?_) #[false, true, true, true, false, false, false, false, false, false] rfl rfl (any_of HT_.out (by kernel_rfl)) (fun _ _ _ h => h) (Or.inl ⟨by rfl, ?_⟩) ?_ ?_
           rotate_left
           ·intro w'
            go_simp
            with_reducible rfl
           rotate_left
           ·simp only [Act.put, List.setIfInBounds_toArray, List.set_cons_zero, List.set_cons_succ, i64_w, i32_w]
            rfl
           refine take_ (i := 0) (N := some 27) (v := ?_) (a' := ?_) #[true, true, true, true, false, false, false, false, false, false] rfl rfl (take_ofW HT_.out HW_.out (by kernel_rfl)) (fun _ _ _ h => h) (Or.inl ⟨by rfl, ?_⟩) hHeld ?_ ?_
           rotate_left
           ·rintro w' ⟨s0, s1, s2, s3, s4⟩
            go_simp
            with_reducible rfl
           rotate_left
           ·simp only [Act.put, List.setIfInBounds_toArray, List.set_cons_zero, List.set_cons_succ, i64_w, i32_w]
            rfl
           refine take_ (i := 4) (N := some 31) (v := ?_) (a' := ?_) #[true, true, true, true, true, false, false, false, false, false] rfl rfl (take_ofW HT_.out HW_.out (by kernel_rfl)) (fun _ _ _ h => h) (Or.inl ⟨by rfl, ?_⟩) hHeld ?_ ?_
           rotate_left
           ·rintro w' ⟨s0, s1, s2, s3, s4⟩
            go_simp
            with_reducible rfl
           rotate_left
           ·simp only [Act.put, List.setIfInBounds_toArray, List.set_cons_zero, List.set_cons_succ, i64_w, i32_w]
            rfl
           refine one_ (i := 5) (N := some 32) #[true, true, true, true, true, true, false, false, false, false] rfl rfl (one_of HT_.out (by kernel_rfl)) (by decide) (fun K hK => ?_)
           refine goes_ Try.func21 (by kernel_rfl) rfl #[.agg #[.int .i64 x475000_1, .slice Ao35 x475001_1.length co35], .agg #[.int .i64 ((rd_T46 l1 x8_1).f0), .int .i64 ((rd_T46 l1 x8_1).f1), .int .i64 ((rd_T46 l1 x8_1).f2)]] (by rfl) rfl rfl (by (try simp only [List.map_toArray, List.map_cons, List.map_nil]); first | done | rfl | (simp only [List.length_drop, List.length_take]; rfl)) ?_
           with_reducible refine (haywainlaw11_do.calls kj16 x475000_1 _ _ x475001_1 ((rd_T46 l1 x8_1).f0) ((rd_T46 l1 x8_1).f1) ((rd_T46 l1 x8_1).f2) t480 t481 t484 _ ?side1 ?side2 A22.out).mono ?_
           (case side1 => repeat (first | exact (Kd.V_reads' HO_475001.out).2.2 | (with_reducible refine Kd.C_alloc ?_ _) | (with_reducible refine Kd.C_drewN ?_ _) | (with_reducible refine Kd.C_drew ?_)))
           (case side2 => exact (Kd.V_reads' HO_475001.out).2.1)
           rintro e w36 ⟨v482, rfl, ho0, hb⟩
           refine ⟨_, rfl, ?_⟩
           have n0_ := Aside0.mk (Kd.V_elder' (by (with_reducible repeat (first | apply Kd.V_alloc | apply Kd.V_drewN | apply Kd.V_drew)); exact HO_475001.out) (Kd.R_base ho0) hb)
           have n1_ := Aside0.mk (Kd.R_lower (Kd.R_newM (M := fun k_ => (w.heap.size ≤ k_)) ho0 (below_size (by repeat (first | (with_reducible first | exact HB.out | apply below_alloc | apply pw_below_drewN | apply below_drew1 | refine below_set ?_ GE474.out) | exact HB.out))) (fun k_ h_ => h_)) (below_size (by repeat (first | (with_reducible first | exact HB.out | apply below_alloc | apply pw_below_drewN | apply below_drew1 | refine below_set ?_ GE474.out) | exact HB.out))))
           have n2_ := Aside0.mk (blk_below (g := gb474) (o := .cells #[.int .i64 x475000_1, .slice Ao35 x475001_1.length co35] 24 (0, 0)) (by (with_reducible repeat (first | refine blk_drewN ?_ _ | refine blk_drew ?_ | refine blk_alloc ?_ _)); exact BK474.out) hb)
           have n3_ := Aside0.mk (below_step (by repeat (first | (with_reducible first | exact HB.out | apply below_alloc | apply pw_below_drewN | apply below_drew1 | refine below_set ?_ GE474.out) | exact HB.out)) hb)
           clear HO_475001
           clear BK474
           clear HB
           have HO_475001 := n0_
           have HO483 := n1_
           have BK474 := n2_
           have HB := n3_
           clear n0_ n1_ n2_ n3_
           (try clear hb)
           (try clear hb2)
           (try clear hk)
           (try clear hi)
           (try clear ho0)
           obtain ⟨Ao38, co38, eo38⟩ := Kd.R_slice HO483.out
           (first | subst eo38 | (injection eo38 with f1_ f2_ f3_; have f4_ := f1_.symm; have f5_ := f3_.symm; clear f1_ f2_ f3_; subst f4_; subst f5_))
           refine hK.out _ _ ⟨(blk_cell BK474.out 0).trans rfl, (blk_cell BK474.out 1).trans rfl, ((HB.out.cell (World.block_lt_of_cell? w _ hw479_0)).trans hw479_0), ((HB.out.cell (World.block_lt_of_cell? w _ hw479_1)).trans hw479_1), ((HB.out.cell (World.block_lt_of_cell? w _ hw479_2)).trans hw479_2)⟩ (fun hHeld => ?_)
           clear hK K
           refine norm_ (a' := ?_) ?_ ?_
           rotate_left
           ·show Act.put _ (some 32) _ = _
            simp only [Act.put, List.setIfInBounds_toArray, List.set_cons_zero, List.set_cons_succ, i64_w, i32_w]
            rfl
           refine pure_ (i := 6) (N := some 26) (v := ?_) (a' := ?_) #[true, true, true, true, true, true, true, false, false, false] rfl rfl (any_of HT_.out (by kernel_rfl)) (fun _ _ _ h => h) (Or.inl ⟨by rfl, ?_⟩) ?_ ?_
           rotate_left
           ·intro w'
            go_simp
            with_reducible rfl
           rotate_left
           ·simp only [Act.put, List.setIfInBounds_toArray, List.set_cons_zero, List.set_cons_succ, i64_w, i32_w]
            rfl
           refine pure_ (i := 7) (N := some 33) (v := ?_) (a' := ?_) #[true, true, true, true, true, true, true, true, false, false] rfl rfl (any_of HT_.out (by kernel_rfl)) (fun _ _ _ h => h) (Or.inl ⟨by rfl, ?_⟩) ?_ ?_
           rotate_left
           ·intro w'
            go_simp
            with_reducible rfl
           rotate_left
           ·simp only [Act.put, List.setIfInBounds_toArray, List.set_cons_zero, List.set_cons_succ, i64_w, i32_w]
            rfl
           refine pure_ (i := 8) (N := some 34) (v := ?_) (a' := ?_) #[true, true, true, true, true, true, true, true, true, false] rfl rfl (any_of HT_.out (by kernel_rfl)) (fun _ _ _ h => h) (Or.inl ⟨by rfl, ?_⟩) ?_ ?_
           rotate_left
           ·intro w'
            go_simp
            with_reducible rfl
           rotate_left
           ·simp only [Act.put, List.setIfInBounds_toArray, List.set_cons_zero, List.set_cons_succ, i64_w, i32_w]
            rfl
           refine last_ (i := 9) (N := none) #[true, true, true, true, true, true, true, true, true, true] rfl rfl (one_of HT_.out (by kernel_rfl)) (by decide) (fun K hK => ?_)
           have hs37 : w36.cell? ⟨gb474, 0, none⟩ = some (.int .i64 x475000_1) := (blk_cell BK474.out 0).trans rfl
           have hfs37 := blk_frozen BK474.out 0
           have hs39 : w36.cell? ⟨gb474, 1, none⟩ = some (.slice Ao35 x475001_1.length co35) := (blk_cell BK474.out 1).trans rfl
           have hfs39 := blk_frozen BK474.out 1
           refine skip_ (w1 := ?_) (by rfl) rfl ?_ ?_
           rotate_left
           ·go_simp
            rfl
           refine hK.out _ _ ?_
           clear hK K
           refine done_ (done_of HT_.out (by kernel_rfl)) ?_
           have hcz40_0 : w36.cell? ⟨gb474, 0, none⟩ = some (.int .i64 x475000_1) := (blk_cell BK474.out 0).trans rfl
           have hcz40_1 : w36.cell? ⟨gb474, 1, none⟩ = some (.slice Ao35 x475001_1.length co35) := (blk_cell BK474.out 1).trans rfl
           have hfz40_0 := blk_frozen BK474.out 0
           have hfz40_1 := blk_frozen BK474.out 1
           try go_wp2_with (first | ((with_reducible refine gate_callee (f := 12) rfl ?_); refine goesL_ (some 37) rfl rfl Try.func12 (by kernel_rfl) rfl #[.agg #[.int .i64 t480, .slice Ao38 t481.length co38], .int .i64 a2] rfl (by (try simp only [List.map_toArray, List.map_cons, List.map_nil]); first | done | rfl | (simp only [List.length_drop, List.length_take]; rfl)) ?_; (with_reducible refine (view_Inc.calls kj16 t480 _ _ t481 a2 t485 _ ?side1 ?side2 A23.out).mono ?_); (case side1 => refine (Kd.R_reads' (e := 59) (base := w.heap.size) (ok := fun k_ => (((w.heap.size ≤ k_)) ∧ True)) (n := t481.length) (c := co38) ?_).2.2; exact (by (with_reducible repeat (first | apply Kd.R_alloc | apply Kd.R_drewN | apply Kd.R_drew)); exact (Kd.R_mono (Kd.R_far (p := ⟨gb474, 1, none⟩) (Kd.R_far (p := ⟨gb474, 0, none⟩) (Kd.R_types HO483.out BK474.out (by decide)) (fun _ hk => hk.2) (.int .i64 t480)) (fun _ hk => hk.2) (.slice Ao38 t481.length co38)) (fun _ h_ => h_.1)))); (case side2 => exact (Kd.R_reads' HO483.out).2.1); rintro e w41 ⟨rfl, hb⟩; refine ⟨_, rfl, ?_⟩; have n0_ := Aside0.mk (Kd.V_below (by (with_reducible repeat (first | apply Kd.V_alloc | apply Kd.V_drewN | apply Kd.V_drew)); exact (Kd.V_mono (Kd.V_far (p := ⟨gb474, 1, none⟩) (Kd.V_far (p := ⟨gb474, 0, none⟩) (Kd.V_mono HO_475001.out (fun k_ hk => (⟨hk, hk.1.2⟩ : _ ∧ k_ ≠ gb474))) (fun _ hk => hk.2) (.int .i64 t480)) (fun _ hk => hk.2) (.slice Ao38 t481.length co38)) (fun _ h_ => h_.1))) hb); have n1_ := Aside0.mk (Kd.R_below (by (with_reducible repeat (first | apply Kd.R_alloc | apply Kd.R_drewN | apply Kd.R_drew)); exact (Kd.R_mono (Kd.R_far (p := ⟨gb474, 1, none⟩) (Kd.R_far (p := ⟨gb474, 0, none⟩) (Kd.R_types HO483.out BK474.out (by decide)) (fun _ hk => hk.2) (.int .i64 t480)) (fun _ hk => hk.2) (.slice Ao38 t481.length co38)) (fun _ h_ => h_.1))) hb); have n2_ := Aside0.mk (blk_below (g := gb474) (o := .cells #[.int .i64 t480, .slice Ao38 t481.length co38] 24 (0, 0)) (by (with_reducible repeat (first | refine blk_drewN ?_ _ | refine blk_drew ?_ | refine blk_alloc ?_ _)); refine blk_put (cs := #[.int .i64 t480, .slice Ao35 x475001_1.length co35]) ?_ 1 _ rfl; (with_reducible repeat (first | refine blk_drewN ?_ _ | refine blk_drew ?_ | refine blk_alloc ?_ _)); refine blk_put (cs := #[.int .i64 x475000_1, .slice Ao35 x475001_1.length co35]) ?_ 0 _ rfl; (with_reducible repeat (first | refine blk_drewN ?_ _ | refine blk_drew ?_ | refine blk_alloc ?_ _)); exact BK474.out) hb); have n3_ := Aside0.mk (below_step (by repeat (first | (with_reducible first | exact HB.out | apply below_alloc | apply pw_below_drewN | apply below_drew1 | refine below_set ?_ GE474.out) | exact HB.out)) hb); clear HO_475001; clear HO483; clear BK474; clear HB; have HO_475001 := n0_; have HO483 := n1_; have BK474 := n2_; have HB := n3_; clear n0_ n1_ n2_ n3_; (try clear hb); (try clear hb2); (try clear hk); (try clear hi)))
           go_roundg kj16
           case measure => have := HK1.out; have := HJ16.out; omega
           case rel => exact ⟨(t485), (wrap64 (x8_1 + 1)), (t480), (t481), (.slice Ao38 t481.length co38), (by first | rfl | (simp; done) | (simp [*]; done)), (by first | rfl | (simp; done) | (simp [*]; done)), H', ⟨by have := HK1.out; have := HJ16.out; omega⟩, ⟨Kd.V_mono (Kd.R_V (by (with_reducible repeat (first | apply Kd.R_alloc | apply Kd.R_drewN | apply Kd.R_drew)); exact (Kd.R_types HO483.out BK474.out (by decide)))) (fun k_ hk => by first | exact ⟨(.inr (hk.1.1)), hk.2⟩ | exact ⟨(.inr (hk.1)), hk.2⟩ | exact (.inr (hk)))⟩, ⟨by (with_reducible repeat (first | refine blk_drewN ?_ _ | refine blk_drew ?_ | refine blk_alloc ?_ _)); exact BK474.out⟩, ⟨by repeat (first | (with_reducible first | exact HB.out | apply below_alloc | apply pw_below_drewN | apply below_drew1 | refine below_set ?_ GE474.out) | exact HB.out)⟩⟩
        ·rw [if_neg c21] at H
         exact absurd H (by simp)
       ·rw [if_neg c20] at H
        exact absurd H (by simp)
      ·replace c19 := Bool.eq_false_iff.mpr c19
       subst c19
       have H1 : ((haywainlaw11_knows.f kj16).bind fun t478 => (some t478)) = some r := by rw [if_neg (show ¬ (false = true) by decide)] at H; exact H
       clear H
       have H := H1
       clear H1
       replace H := Option.bind_eq_some_iff.mp H
       obtain ⟨t478, A420, H⟩ := H
       replace H : (some t478) = some r := H
       have A42 := Aside0.mk A420
       clear A420
       obtain rfl := Option.some.inj H
       go_wp2_with (first | ((with_reducible refine gate_callee (f := 10) rfl ?_); refine goesL_ (some 46) rfl rfl Try.func10 (by kernel_rfl) rfl #[] rfl (by (try simp only [List.map_toArray, List.map_cons, List.map_nil]); first | done | rfl | (simp only [List.length_drop, List.length_take]; rfl)) ?_; (with_reducible refine (haywainlaw11_knows.calls kj16  t478 _ A42.out).mono ?_); rintro e w43 ⟨rfl, hb⟩; refine ⟨_, rfl, ?_⟩; have n0_ := Aside0.mk (Kd.V_below (by (with_reducible repeat (first | apply Kd.V_alloc | apply Kd.V_drewN | apply Kd.V_drew)); exact HO_475001.out) hb); have n1_ := Aside0.mk (blk_below (g := gb474) (o := .cells #[.int .i64 x475000_1, u475001] 24 (0, 0)) (by (with_reducible repeat (first | refine blk_drewN ?_ _ | refine blk_drew ?_ | refine blk_alloc ?_ _)); exact BK474.out) hb); have n2_ := Aside0.mk (below_step (by repeat (first | (with_reducible first | exact HB.out | apply below_alloc | apply pw_below_drewN | apply below_drew1 | refine below_set ?_ GE474.out) | exact HB.out)) hb); clear HO_475001; clear BK474; clear HB; have HO_475001 := n0_; have BK474 := n1_; have HB := n2_; clear n0_ n1_ n2_; (try clear hb); (try clear hb2); (try clear hk); (try clear hi)))
       go_ret
       exact ⟨by first | rfl | (simp [errW_none, errW_some] <;> rfl) | (simp [*, errW_none, errW_some] <;> rfl), by repeat (first | (with_reducible first | exact HB.out | apply below_alloc | apply pw_below_drewN | apply below_drew1 | refine below_set ?_ GE474.out) | exact HB.out)⟩

def okT59_ViewIncs (x : S59) : Prop := ((Lit.int .i64 x.f0).wf = true) ∧ ((Lit.int .i64 x.f1).wf = true)
def okT24_ViewIncs (x : S24) : Prop := ((Lit.int .i64 x.f0).wf = true) ∧ ((x.f1.length ≤ maxLen ∧ x.f1.length * 16 ≤ 140737488351232 ∧ ∀ a ∈ x.f1, okT59_ViewIncs a))
def okT46_ViewIncs (x : S46) : Prop := ((Lit.int .i64 x.f0).wf = true) ∧ ((Lit.int .i64 x.f1).wf = true) ∧ ((Lit.int .i64 x.f2).wf = true)
/-- THE ONE PURE STATEMENT of haywainlaw11_ViewIncs: yours. -/
def haywainlaw11_ViewIncs.Pure : Prop := ∀ (a0_0 : Int) (l0_1 : List (S59)) (l1 : List (S46)) (a2 : Int), (Lit.int .i64 a0_0).wf = true → (l0_1.length ≤ maxLen ∧ l0_1.length * 16 ≤ 140737488351232 ∧ ∀ a ∈ l0_1, okT59_ViewIncs a) → (l1.length ≤ maxLen ∧ l1.length * 24 ≤ 140737488351232 ∧ ∀ a ∈ l1, okT46_ViewIncs a) → (Lit.int .i64 a2).wf = true → ∃ k, haywainlaw11_ViewIncs.f k a0_0 l0_1 l1 a2 = some true

end Go.Proofs.Ytgfaejkgkhdihaa.PView
