-- Printed for this claim by a turned copy of the print (wip/tools/patch.py); a text of this session, not of print.sh.
import Derived.Test.YtgfaejkgkhdihaaPViewx0
import Derived.Test.YtgfaejkgkhdihaaPViewx3
import Derived.Test.YtgfaejkgkhdihaaPViewx6
import Derived.Test.YtgfaejkgkhdihaaPViewx7
import Derived.Test.YtgfaejkgkhdihaaPViewx8
import Derived.Test.YtgfaejkgkhdihaaPViewx9
import Derived.Test.YtgfaejkgkhdihaaPViewx10
namespace Go.Proofs.Ytgfaejkgkhdihaa.PView
open Go.RowKit Go.Proofs.YtgfaejkgkhdihaaW.PrintWords Go.Proofs.YtgfaejkgkhdihaaW.PrintLast Go.Proofs.YtgfaejkgkhdihaaW.PrintMore
attribute [local go_sem] max2_int min2_int max_two min_two max_three min_three max_four min_four   -- for this text's walks alone
set_option linter.unusedVariables false
set_option linter.unusedSimpArgs false

/-! ### haywainlaw11_ViewPlays: function 4 -/
mutual
def haywainlaw11_ViewPlays.l0 : Nat → List (S46) → Int → Int → List (S59) → Int → List (S60) → Option (Bool)
 | 0, _, _, _, _, _, _ => none
 | k + 1, x1, x6, x334000, x334001, x341000, x341001 => if x6 < (x1.length : Int) then (haywainlaw11_ViewPlays.j1 k x1 x6 (decide (x6 < 40)) x334000 x334001 x341000 x341001) else (haywainlaw11_ViewPlays.j1 k x1 x6 false x334000 x334001 x341000 x341001)
def haywainlaw11_ViewPlays.j1 : Nat → List (S46) → Int → Bool → Int → List (S59) → Int → List (S60) → Option (Bool)
 | 0, _, _, _, _, _, _, _ => none
 | k + 1, x1, x6, x28, x334000, x334001, x341000, x341001 => if x28 = true then (if 0 ≤ x6 then (if x6 < (x1.length : Int) then ((haywainlaw11_do.f k x334000 x334001 ((rd_T46 x1 x6).f0) ((rd_T46 x1 x6).f1) ((rd_T46 x1 x6).f2)).bind fun bt345 => (if ((rd_T46 x1 x6).f0) = 0 then ((haywainref11_Join.f k x341000 x341001 ((rd_T46 x1 x6).f1) ((rd_T46 x1 x6).f2)).bind fun bt355 => (haywainlaw11_ViewPlays.j2 k x1 x6 bt345.2.2 bt355.2.2 bt345.1 bt345.2.1 bt355.1 bt355.2.1)) else ((haywainref11_Leave.f k x341000 x341001 ((rd_T46 x1 x6).f1)).bind fun bt361 => (haywainlaw11_ViewPlays.j2 k x1 x6 bt345.2.2 bt361.2.2 bt345.1 bt345.2.1 bt361.1 bt361.2.1)))) else (none)) else (none)) else ((haywainlaw11_knows.f k).bind fun t343 => (some t343))
def haywainlaw11_ViewPlays.j2 : Nat → List (S46) → Int → Int → Int → Int → List (S59) → Int → List (S60) → Option (Bool)
 | 0, _, _, _, _, _, _, _, _ => none
 | k + 1, x1, x6, x8, x10, x351000, x351001, x352000, x352001 => if x8 = x10 then ((haywainlaw11_as.f k x351000 x351001).bind fun bt366 => ((haywainref11_Same.f k bt366.1 bt366.2 x352000 x352001).bind fun t370 => (if t370 = true then (haywainlaw11_ViewPlays.l0 k x1 (wrap64 (x6 + 1)) x351000 x351001 x352000 x352001) else (none)))) else (none)
end
def haywainlaw11_ViewPlays.f (k : Nat) (a0_0 : Int) (l0_1 : List (S59)) (l1 : List (S46)) : Option (Bool) := (haywainlaw11_great.f a0_0 l0_1).bind fun t334 => (if t334 = true then ((haywainlaw11_knows.f k).bind fun t335 => (some t335)) else ((haywainlaw11_as.f k a0_0 l0_1).bind fun bt336 => ((view_Right.f k a0_0 l0_1).bind fun t341 => ((haywainref11_Right.f k bt336.1 bt336.2).bind fun t342 => (if (t341 != t342) = true then (none) else (haywainlaw11_ViewPlays.l0 k l1 0 a0_0 l0_1 bt336.1 bt336.2))))))
theorem haywainlaw11_ViewPlays.mono_l : ∀ k, (∀ y0 y1 y2 y3 y4 y5, LeO (haywainlaw11_ViewPlays.l0 k y0 y1 y2 y3 y4 y5) (haywainlaw11_ViewPlays.l0 (k + 1) y0 y1 y2 y3 y4 y5)) ∧ (∀ y0 y1 y2 y3 y4 y5 y6, LeO (haywainlaw11_ViewPlays.j1 k y0 y1 y2 y3 y4 y5 y6) (haywainlaw11_ViewPlays.j1 (k + 1) y0 y1 y2 y3 y4 y5 y6)) ∧ (∀ y0 y1 y2 y3 y4 y5 y6 y7, LeO (haywainlaw11_ViewPlays.j2 k y0 y1 y2 y3 y4 y5 y6 y7) (haywainlaw11_ViewPlays.j2 (k + 1) y0 y1 y2 y3 y4 y5 y6 y7))
 | 0 => ⟨fun _ _ _ _ _ _ r h => by simp [haywainlaw11_ViewPlays.l0] at h, fun _ _ _ _ _ _ _ r h => by simp [haywainlaw11_ViewPlays.j1] at h, fun _ _ _ _ _ _ _ _ r h => by simp [haywainlaw11_ViewPlays.j2] at h⟩
 | k + 1 => by
  obtain ⟨ih0, ih1, ih2⟩ := haywainlaw11_ViewPlays.mono_l k
  refine ⟨?_, ?_, ?_⟩
  ·intro y0 y1 y2 y3 y4 y5
   unfold haywainlaw11_ViewPlays.l0
   repeat' first
   | (with_reducible exact ih0 _ _ _ _ _ _)
   | (with_reducible exact ih1 _ _ _ _ _ _ _)
   | (with_reducible exact ih2 _ _ _ _ _ _ _ _)
   | (with_reducible exact haywainlaw11_as.mono _ _ _)
   | (with_reducible exact haywainlaw11_do.mono _ _ _ _ _ _)
   | (with_reducible exact haywainlaw11_knows.mono _)
   | (with_reducible exact haywainref11_Join.mono _ _ _ _ _)
   | (with_reducible exact haywainref11_Leave.mono _ _ _ _)
   | (with_reducible exact haywainref11_Right.mono _ _ _)
   | (with_reducible exact haywainref11_Same.mono _ _ _ _ _)
   | (with_reducible exact view_Right.mono _ _ _)
   | (with_reducible exact LeO.refl _)
   | (with_reducible exact LeO.none _)
   | (with_reducible refine LeO.ite ?_ ?_)
   | (with_reducible refine LeO.bind ?_ (fun _ => ?_))
   | exact ih0 _ _ _ _ _ _
   | exact ih1 _ _ _ _ _ _ _
   | exact ih2 _ _ _ _ _ _ _ _
   | exact haywainlaw11_as.mono _ _ _
   | exact haywainlaw11_do.mono _ _ _ _ _ _
   | exact haywainlaw11_knows.mono _
   | exact haywainref11_Join.mono _ _ _ _ _
   | exact haywainref11_Leave.mono _ _ _ _
   | exact haywainref11_Right.mono _ _ _
   | exact haywainref11_Same.mono _ _ _ _ _
   | exact view_Right.mono _ _ _
   | exact LeO.none _
   | refine LeO.ite ?_ ?_
   | refine LeO.bind ?_ (fun _ => ?_)
  ·intro y0 y1 y2 y3 y4 y5 y6
   unfold haywainlaw11_ViewPlays.j1
   repeat' first
   | (with_reducible exact ih0 _ _ _ _ _ _)
   | (with_reducible exact ih1 _ _ _ _ _ _ _)
   | (with_reducible exact ih2 _ _ _ _ _ _ _ _)
   | (with_reducible exact haywainlaw11_as.mono _ _ _)
   | (with_reducible exact haywainlaw11_do.mono _ _ _ _ _ _)
   | (with_reducible exact haywainlaw11_knows.mono _)
   | (with_reducible exact haywainref11_Join.mono _ _ _ _ _)
   | (with_reducible exact haywainref11_Leave.mono _ _ _ _)
   | (with_reducible exact haywainref11_Right.mono _ _ _)
   | (with_reducible exact haywainref11_Same.mono _ _ _ _ _)
   | (with_reducible exact view_Right.mono _ _ _)
   | (with_reducible exact LeO.refl _)
   | (with_reducible exact LeO.none _)
   | (with_reducible refine LeO.ite ?_ ?_)
   | (with_reducible refine LeO.bind ?_ (fun _ => ?_))
   | exact ih0 _ _ _ _ _ _
   | exact ih1 _ _ _ _ _ _ _
   | exact ih2 _ _ _ _ _ _ _ _
   | exact haywainlaw11_as.mono _ _ _
   | exact haywainlaw11_do.mono _ _ _ _ _ _
   | exact haywainlaw11_knows.mono _
   | exact haywainref11_Join.mono _ _ _ _ _
   | exact haywainref11_Leave.mono _ _ _ _
   | exact haywainref11_Right.mono _ _ _
   | exact haywainref11_Same.mono _ _ _ _ _
   | exact view_Right.mono _ _ _
   | exact LeO.none _
   | refine LeO.ite ?_ ?_
   | refine LeO.bind ?_ (fun _ => ?_)
  ·intro y0 y1 y2 y3 y4 y5 y6 y7
   unfold haywainlaw11_ViewPlays.j2
   repeat' first
   | (with_reducible exact ih0 _ _ _ _ _ _)
   | (with_reducible exact ih1 _ _ _ _ _ _ _)
   | (with_reducible exact ih2 _ _ _ _ _ _ _ _)
   | (with_reducible exact haywainlaw11_as.mono _ _ _)
   | (with_reducible exact haywainlaw11_do.mono _ _ _ _ _ _)
   | (with_reducible exact haywainlaw11_knows.mono _)
   | (with_reducible exact haywainref11_Join.mono _ _ _ _ _)
   | (with_reducible exact haywainref11_Leave.mono _ _ _ _)
   | (with_reducible exact haywainref11_Right.mono _ _ _)
   | (with_reducible exact haywainref11_Same.mono _ _ _ _ _)
   | (with_reducible exact view_Right.mono _ _ _)
   | (with_reducible exact LeO.refl _)
   | (with_reducible exact LeO.none _)
   | (with_reducible refine LeO.ite ?_ ?_)
   | (with_reducible refine LeO.bind ?_ (fun _ => ?_))
   | exact ih0 _ _ _ _ _ _
   | exact ih1 _ _ _ _ _ _ _
   | exact ih2 _ _ _ _ _ _ _ _
   | exact haywainlaw11_as.mono _ _ _
   | exact haywainlaw11_do.mono _ _ _ _ _ _
   | exact haywainlaw11_knows.mono _
   | exact haywainref11_Join.mono _ _ _ _ _
   | exact haywainref11_Leave.mono _ _ _ _
   | exact haywainref11_Right.mono _ _ _
   | exact haywainref11_Same.mono _ _ _ _ _
   | exact view_Right.mono _ _ _
   | exact LeO.none _
   | refine LeO.ite ?_ ?_
   | refine LeO.bind ?_ (fun _ => ?_)
theorem haywainlaw11_ViewPlays.mono : ∀ a0 a1 a2 k, LeO (haywainlaw11_ViewPlays.f k a0 a1 a2) (haywainlaw11_ViewPlays.f (k + 1) a0 a1 a2) := by
 intro a0 a1 a2 k
 obtain ⟨ih0, ih1, ih2⟩ := haywainlaw11_ViewPlays.mono_l k
 unfold haywainlaw11_ViewPlays.f
 repeat' first
   | (with_reducible exact ih0 _ _ _ _ _ _)
   | (with_reducible exact ih1 _ _ _ _ _ _ _)
   | (with_reducible exact ih2 _ _ _ _ _ _ _ _)
   | (with_reducible exact haywainlaw11_as.mono _ _ _)
   | (with_reducible exact haywainlaw11_do.mono _ _ _ _ _ _)
   | (with_reducible exact haywainlaw11_knows.mono _)
   | (with_reducible exact haywainref11_Join.mono _ _ _ _ _)
   | (with_reducible exact haywainref11_Leave.mono _ _ _ _)
   | (with_reducible exact haywainref11_Right.mono _ _ _)
   | (with_reducible exact haywainref11_Same.mono _ _ _ _ _)
   | (with_reducible exact view_Right.mono _ _ _)
   | (with_reducible exact LeO.refl _)
   | (with_reducible exact LeO.none _)
   | (with_reducible refine LeO.ite ?_ ?_)
   | (with_reducible refine LeO.bind ?_ (fun _ => ?_))
   | exact ih0 _ _ _ _ _ _
   | exact ih1 _ _ _ _ _ _ _
   | exact ih2 _ _ _ _ _ _ _ _
   | exact haywainlaw11_as.mono _ _ _
   | exact haywainlaw11_do.mono _ _ _ _ _ _
   | exact haywainlaw11_knows.mono _
   | exact haywainref11_Join.mono _ _ _ _ _
   | exact haywainref11_Leave.mono _ _ _ _
   | exact haywainref11_Right.mono _ _ _
   | exact haywainref11_Same.mono _ _ _ _ _
   | exact view_Right.mono _ _ _
   | exact LeO.none _
   | refine LeO.ite ?_ ?_
   | refine LeO.bind ?_ (fun _ => ?_)
def haywainlaw11_ViewPlays.T9 : Bool × List (List Nat × List Nat) := (true, [([], []), ([], []), ([], []), ([1, 2], [1, 2]), ([3], [3]), ([0, 4], [0, 4]), ([5], [5]), ([6], [6]), ([6], [6]), ([], []), ([9, 7, 5, 0, 1, 2, 3, 4, 5, 6, 7, 9], [7, 9]), ([8, 10, 0, 1, 2, 3, 4, 5, 6, 7, 8, 9, 10], [8])])
def haywainlaw11_ViewPlays.B9 : List Nat := [0, 0, 0, 6, 14, 31, 63, 127, 127, 0, 767, 2047]
theorem haywainlaw11_ViewPlays.tab9 : rtab .any (opsOf Try.f4 9) = haywainlaw11_ViewPlays.T9 := by kernel_rfl
theorem haywainlaw11_ViewPlays.bits9 : waitsOk haywainlaw11_ViewPlays.T9.2 haywainlaw11_ViewPlays.B9 = true := by kernel_rfl
def haywainlaw11_ViewPlays.T13 : Bool × List (List Nat × List Nat) := (true, [([], []), ([], []), ([], []), ([1, 2], [1, 2]), ([3], [3]), ([4], [4]), ([], []), ([], []), ([6, 7], [6, 7]), ([8], [8]), ([9], [9]), ([0, 5, 10], [0, 5, 10]), ([11], [11]), ([12], [12]), ([12], [12]), ([13, 11, 0, 1, 2, 3, 4, 5, 6, 7, 8, 9, 10, 11, 12, 13], [13]), ([14, 15, 0, 1, 2, 3, 4, 5, 6, 7, 8, 9, 10, 11, 12, 13, 14, 15], [14])])
def haywainlaw11_ViewPlays.B13 : List Nat := [0, 0, 0, 6, 14, 30, 0, 0, 192, 448, 960, 2047, 4095, 8191, 8191, 16383, 65535]
theorem haywainlaw11_ViewPlays.tab13 : rtab .any (opsOf Try.f4 13) = haywainlaw11_ViewPlays.T13 := by kernel_rfl
theorem haywainlaw11_ViewPlays.bits13 : waitsOk haywainlaw11_ViewPlays.T13.2 haywainlaw11_ViewPlays.B13 = true := by kernel_rfl
def haywainlaw11_ViewPlays.T14 : Bool × List (List Nat × List Nat) := (true, [([], []), ([], []), ([], []), ([1, 2], [1, 2]), ([3], [3]), ([4], [4]), ([0, 5], [0, 5]), ([6], [6]), ([7], [7]), ([7], [7]), ([8, 6, 0, 1, 2, 3, 4, 5, 6, 7, 8], [8]), ([9, 10, 0, 1, 2, 3, 4, 5, 6, 7, 8, 9, 10], [9])])
def haywainlaw11_ViewPlays.B14 : List Nat := [0, 0, 0, 6, 14, 30, 63, 127, 255, 255, 511, 2047]
theorem haywainlaw11_ViewPlays.tab14 : rtab .any (opsOf Try.f4 14) = haywainlaw11_ViewPlays.T14 := by kernel_rfl
theorem haywainlaw11_ViewPlays.bits14 : waitsOk haywainlaw11_ViewPlays.T14.2 haywainlaw11_ViewPlays.B14 = true := by kernel_rfl
def haywainlaw11_ViewPlays.T15 : Bool × List (List Nat × List Nat) := (true, [([], []), ([], []), ([0, 1], [0, 1]), ([2], [2]), ([3], [3]), ([4, 3, 3], [3, 4]), ([3], [3]), ([5, 6, 5, 3], [3, 5, 6]), ([7, 3], [3, 7]), ([3, 8], [3, 8])])
def haywainlaw11_ViewPlays.B15 : List Nat := [0, 0, 3, 7, 15, 31, 15, 127, 255, 511]
theorem haywainlaw11_ViewPlays.tab15 : rtab .any (opsOf Try.f4 15) = haywainlaw11_ViewPlays.T15 := by kernel_rfl
theorem haywainlaw11_ViewPlays.bits15 : waitsOk haywainlaw11_ViewPlays.T15.2 haywainlaw11_ViewPlays.B15 = true := by kernel_rfl
set_option maxHeartbeats 8000000 in
set_option maxRecDepth 100000 in
theorem haywainlaw11_ViewPlays.calls (k : Nat) (a0_0 : Int) (P0_1_ : Nat → Prop) (A0_1 : Option Addr) (c0_1 : Nat) (l0_1 : List (S59)) (A1 : Option Addr) (c1 : Nat) (l1 : List (S46)) (r : Bool) (w : World) (hs0_1 : Kd.V k59 59 w w.heap.size (fun k_ => P0_1_ k_) (.slice A0_1 l0_1.length c0_1) l0_1) (hr1 : Kd.C k46 w A1 l1.length l1) (hc1 : l1.length ≤ c1) (h : haywainlaw11_ViewPlays.f k a0_0 l0_1 l1 = some r) :
  Calls Try.prog 4 #[.agg #[.int .i64 a0_0, .slice A0_1 l0_1.length c0_1], .slice A1 l1.length c1] w fun e w' => e = .returned (.bool r) ∧ Below w.heap.size w w' := by
 have hu24 := Try.underlying24
 have hu29 := Try.underlying29
 have hu46 := Try.underlying46
 have HO0_1 := Aside0.mk (show Kd.V k59 59 w w.heap.size (fun k_ => (P0_1_ k_ ∨ w.heap.size ≤ k_)) (.slice A0_1 l0_1.length c0_1) l0_1 from Kd.V_mono hs0_1 (fun k_ hk => .inl hk))
 have HR1 := Aside0.mk hr1
 have HC1 := Aside0.mk hc1
 clear hr1 hc1
 have HB := Aside0.mk (Below.refl w.heap.size w)
 have H : ((haywainlaw11_great.f a0_0 l0_1).bind fun t334 => (if t334 = true then ((haywainlaw11_knows.f k).bind fun t335 => (some t335)) else ((haywainlaw11_as.f k a0_0 l0_1).bind fun bt336 => ((view_Right.f k a0_0 l0_1).bind fun t341 => ((haywainref11_Right.f k bt336.1 bt336.2).bind fun t342 => (if (t341 != t342) = true then (none) else (haywainlaw11_ViewPlays.l0 k l1 0 a0_0 l0_1 bt336.1 bt336.2))))))) = some r := h
 clear h
 replace H := Option.bind_eq_some_iff.mp H
 obtain ⟨t334, A30, H⟩ := H
 replace H : (if t334 = true then ((haywainlaw11_knows.f k).bind fun t335 => (some t335)) else ((haywainlaw11_as.f k a0_0 l0_1).bind fun bt336 => ((view_Right.f k a0_0 l0_1).bind fun t341 => ((haywainref11_Right.f k bt336.1 bt336.2).bind fun t342 => (if (t341 != t342) = true then (none) else (haywainlaw11_ViewPlays.l0 k l1 0 a0_0 l0_1 bt336.1 bt336.2)))))) = some r := H
 have A3 := Aside0.mk A30
 clear A30
 by_cases c4 : t334 = true
 ·subst c4
  have H1 : ((haywainlaw11_knows.f k).bind fun t335 => (some t335)) = some r := by rw [if_pos rfl] at H; exact H
  clear H
  have H := H1
  clear H1
  replace H := Option.bind_eq_some_iff.mp H
  obtain ⟨t335, A50, H⟩ := H
  replace H : (some t335) = some r := H
  have A5 := Aside0.mk A50
  clear A50
  obtain rfl := Option.some.inj H
  go_enter Try.func4, Try.ntmps4
  go_wp2_with (first | ((with_reducible refine gate_dst (N := 2) rfl ?_); refine box_event ?hg (N := 2) ?hd (cs := #[.int .i64 a0_0, .slice A0_1 l0_1.length c0_1]) (t := 24) ?hr ?_; (case hd => rfl); (case hg => rfl); (case hr => first | (go_simp; done) | (go_simp; rfl)); intro gb333 hg w6 hbox hb; have n0_ := Aside0.mk (Kd.V_below (Kd.V_elderB (by (with_reducible repeat (first | apply Kd.V_alloc | apply Kd.V_drewN | apply Kd.V_drew)); exact HO0_1.out) gb333 (Nat.le_of_eq hg.symm)) hb); have n1_ := Aside0.mk (below_step (by repeat (first | (with_reducible first | exact HB.out | apply below_alloc | apply pw_below_drewN | apply below_drew1) | exact HB.out)) hb); have n2_ := Aside0.mk (hbox); have n3_ := Aside0.mk ((by rw [hg]; exact (below_size (by repeat (first | (with_reducible first | exact HB.out | apply below_alloc | apply pw_below_drewN | apply below_drew1) | exact HB.out))) : w.heap.size ≤ gb333)); have n4_ := Aside0.mk ((by rw [hg]; exact (below_size (by repeat (first | (with_reducible first | exact HB.out | apply below_alloc | apply pw_below_drewN | apply below_drew1) | exact HB.out))) : w.heap.size ≤ gb333)); clear HO0_1; clear HB; have HO0_1 := n0_; have HB := n1_; have BK333 := n2_; have GW333 := n3_; have GE333 := n4_; clear n0_ n1_ n2_ n3_ n4_; clear hb hbox hg; have hcz7_0 : w6.cell? ⟨gb333, 0, none⟩ = some (.int .i64 a0_0) := (blk_cell BK333.out 0).trans rfl; have hcz7_1 : w6.cell? ⟨gb333, 1, none⟩ = some (.slice A0_1 l0_1.length c0_1) := (blk_cell BK333.out 1).trans rfl; have hfz7_0 := blk_frozen BK333.out 0; have hfz7_1 := blk_frozen BK333.out 1) | ((with_reducible refine gate_callee (f := 9) rfl ?_); refine goesL_ (some 12) rfl rfl Try.func9 (by kernel_rfl) rfl #[.agg #[.int .i64 a0_0, .slice A0_1 l0_1.length c0_1]] rfl (by (try simp only [List.map_toArray, List.map_cons, List.map_nil]); first | done | rfl | (simp only [List.length_drop, List.length_take]; rfl)) ?_; (with_reducible refine (haywainlaw11_great.calls a0_0 _ _ l0_1 true _ ?side1 ?side2 A3.out).mono ?_); (case side1 => repeat (first | exact (Kd.V_reads' HO0_1.out).2.2 | (with_reducible refine Kd.C_alloc ?_ _) | (with_reducible refine Kd.C_drewN ?_ _) | (with_reducible refine Kd.C_drew ?_))); (case side2 => exact (Kd.V_reads' HO0_1.out).2.1); rintro e w8 ⟨rfl, hb⟩; refine ⟨_, rfl, ?_⟩; have n0_ := Aside0.mk (Kd.V_below (by (with_reducible repeat (first | apply Kd.V_alloc | apply Kd.V_drewN | apply Kd.V_drew)); exact HO0_1.out) hb); have n1_ := Aside0.mk (blk_below (g := gb333) (o := .cells #[.int .i64 a0_0, .slice A0_1 l0_1.length c0_1] 24 (0, 0)) (by (with_reducible repeat (first | refine blk_drewN ?_ _ | refine blk_drew ?_ | refine blk_alloc ?_ _)); exact BK333.out) hb); have n2_ := Aside0.mk (below_step (by repeat (first | (with_reducible first | exact HB.out | apply below_alloc | apply pw_below_drewN | apply below_drew1 | refine below_set ?_ GE333.out) | exact HB.out)) hb); clear HO0_1; clear BK333; clear HB; have HO0_1 := n0_; have BK333 := n1_; have HB := n2_; clear n0_ n1_ n2_; (try clear hb); (try clear hb2); (try clear hk); (try clear hi)) | ((with_reducible refine gate_callee (f := 10) rfl ?_); refine goesL_ (some 13) rfl rfl Try.func10 (by kernel_rfl) rfl #[] rfl (by (try simp only [List.map_toArray, List.map_cons, List.map_nil]); first | done | rfl | (simp only [List.length_drop, List.length_take]; rfl)) ?_; (with_reducible refine (haywainlaw11_knows.calls k  t335 _ A5.out).mono ?_); rintro e w9 ⟨rfl, hb⟩; refine ⟨_, rfl, ?_⟩; have n0_ := Aside0.mk (Kd.V_below (by (with_reducible repeat (first | apply Kd.V_alloc | apply Kd.V_drewN | apply Kd.V_drew)); exact HO0_1.out) hb); have n1_ := Aside0.mk (blk_below (g := gb333) (o := .cells #[.int .i64 a0_0, .slice A0_1 l0_1.length c0_1] 24 (0, 0)) (by (with_reducible repeat (first | refine blk_drewN ?_ _ | refine blk_drew ?_ | refine blk_alloc ?_ _)); exact BK333.out) hb); have n2_ := Aside0.mk (below_step (by repeat (first | (with_reducible first | exact HB.out | apply below_alloc | apply pw_below_drewN | apply below_drew1 | refine below_set ?_ GE333.out) | exact HB.out)) hb); clear HO0_1; clear BK333; clear HB; have HO0_1 := n0_; have BK333 := n1_; have HB := n2_; clear n0_ n1_ n2_; (try clear hb); (try clear hb2); (try clear hk); (try clear hi)))
  go_ret
  exact ⟨by first | rfl | (simp [errW_none, errW_some] <;> rfl) | (simp [*, errW_none, errW_some] <;> rfl), by repeat (first | (with_reducible first | exact HB.out | apply below_alloc | apply pw_below_drewN | apply below_drew1 | refine below_set ?_ GE333.out) | exact HB.out)⟩
 ·replace c4 := Bool.eq_false_iff.mpr c4
  subst c4
  have H1 : ((haywainlaw11_as.f k a0_0 l0_1).bind fun bt336 => ((view_Right.f k a0_0 l0_1).bind fun t341 => ((haywainref11_Right.f k bt336.1 bt336.2).bind fun t342 => (if (t341 != t342) = true then (none) else (haywainlaw11_ViewPlays.l0 k l1 0 a0_0 l0_1 bt336.1 bt336.2))))) = some r := by rw [if_neg (show ¬ (false = true) by decide)] at H; exact H
  clear H
  have H := H1
  clear H1
  replace H := Option.bind_eq_some_iff.mp H
  obtain ⟨⟨t336, t337⟩, A100, H⟩ := H
  replace H : ((view_Right.f k a0_0 l0_1).bind fun t341 => ((haywainref11_Right.f k t336 t337).bind fun t342 => (if (t341 != t342) = true then (none) else (haywainlaw11_ViewPlays.l0 k l1 0 a0_0 l0_1 t336 t337)))) = some r := H
  have A10 := Aside0.mk A100
  clear A100
  replace H := Option.bind_eq_some_iff.mp H
  obtain ⟨t341, A110, H⟩ := H
  replace H : ((haywainref11_Right.f k t336 t337).bind fun t342 => (if (t341 != t342) = true then (none) else (haywainlaw11_ViewPlays.l0 k l1 0 a0_0 l0_1 t336 t337))) = some r := H
  have A11 := Aside0.mk A110
  clear A110
  replace H := Option.bind_eq_some_iff.mp H
  obtain ⟨t342, A120, H⟩ := H
  replace H : (if (t341 != t342) = true then (none) else (haywainlaw11_ViewPlays.l0 k l1 0 a0_0 l0_1 t336 t337)) = some r := H
  have A12 := Aside0.mk A120
  clear A120
  by_cases c13 : (t341 != t342) = true
  ·rw [if_pos c13] at H
   exact absurd H (by simp)
  ·rw [if_neg c13] at H
   have c13b0 : (t341 != t342) = false := by simpa using c13
   (try (have c13b1 : decide (t341 = t342) = true := by simpa using c13))
   (try (have c13b2 : (t341 == t342) = true := by simpa using c13))
   clear c13
   have H' := Aside0.mk H
   clear H
   go_enter Try.func4, Try.ntmps4
   try go_wp2_with (first | ((with_reducible refine gate_dst (N := 2) rfl ?_); refine box_event ?hg (N := 2) ?hd (cs := #[.int .i64 a0_0, .slice A0_1 l0_1.length c0_1]) (t := 24) ?hr ?_; (case hd => rfl); (case hg => rfl); (case hr => first | (go_simp; done) | (go_simp; rfl)); intro gb333 hg w14 hbox hb; have n0_ := Aside0.mk (Kd.V_below (Kd.V_elderB (by (with_reducible repeat (first | apply Kd.V_alloc | apply Kd.V_drewN | apply Kd.V_drew)); exact HO0_1.out) gb333 (Nat.le_of_eq hg.symm)) hb); have n1_ := Aside0.mk (below_step (by repeat (first | (with_reducible first | exact HB.out | apply below_alloc | apply pw_below_drewN | apply below_drew1) | exact HB.out)) hb); have n2_ := Aside0.mk (hbox); have n3_ := Aside0.mk ((by rw [hg]; exact (below_size (by repeat (first | (with_reducible first | exact HB.out | apply below_alloc | apply pw_below_drewN | apply below_drew1) | exact HB.out))) : w.heap.size ≤ gb333)); have n4_ := Aside0.mk ((by rw [hg]; exact (below_size (by repeat (first | (with_reducible first | exact HB.out | apply below_alloc | apply pw_below_drewN | apply below_drew1) | exact HB.out))) : w.heap.size ≤ gb333)); clear HO0_1; clear HB; have HO0_1 := n0_; have HB := n1_; have BK333 := n2_; have GW333 := n3_; have GE333 := n4_; clear n0_ n1_ n2_ n3_ n4_; clear hb hbox hg; have hcz15_0 : w14.cell? ⟨gb333, 0, none⟩ = some (.int .i64 a0_0) := (blk_cell BK333.out 0).trans rfl; have hcz15_1 : w14.cell? ⟨gb333, 1, none⟩ = some (.slice A0_1 l0_1.length c0_1) := (blk_cell BK333.out 1).trans rfl; have hfz15_0 := blk_frozen BK333.out 0; have hfz15_1 := blk_frozen BK333.out 1) | ((with_reducible refine gate_callee (f := 9) rfl ?_); refine goesL_ (some 12) rfl rfl Try.func9 (by kernel_rfl) rfl #[.agg #[.int .i64 a0_0, .slice A0_1 l0_1.length c0_1]] rfl (by (try simp only [List.map_toArray, List.map_cons, List.map_nil]); first | done | rfl | (simp only [List.length_drop, List.length_take]; rfl)) ?_; (with_reducible refine (haywainlaw11_great.calls a0_0 _ _ l0_1 false _ ?side1 ?side2 A3.out).mono ?_); (case side1 => repeat (first | exact (Kd.V_reads' HO0_1.out).2.2 | (with_reducible refine Kd.C_alloc ?_ _) | (with_reducible refine Kd.C_drewN ?_ _) | (with_reducible refine Kd.C_drew ?_))); (case side2 => exact (Kd.V_reads' HO0_1.out).2.1); rintro e w16 ⟨rfl, hb⟩; refine ⟨_, rfl, ?_⟩; have n0_ := Aside0.mk (Kd.V_below (by (with_reducible repeat (first | apply Kd.V_alloc | apply Kd.V_drewN | apply Kd.V_drew)); exact HO0_1.out) hb); have n1_ := Aside0.mk (blk_below (g := gb333) (o := .cells #[.int .i64 a0_0, .slice A0_1 l0_1.length c0_1] 24 (0, 0)) (by (with_reducible repeat (first | refine blk_drewN ?_ _ | refine blk_drew ?_ | refine blk_alloc ?_ _)); exact BK333.out) hb); have n2_ := Aside0.mk (below_step (by repeat (first | (with_reducible first | exact HB.out | apply below_alloc | apply pw_below_drewN | apply below_drew1 | refine below_set ?_ GE333.out) | exact HB.out)) hb); clear HO0_1; clear BK333; clear HB; have HO0_1 := n0_; have BK333 := n1_; have HB := n2_; clear n0_ n1_ n2_; (try clear hb); (try clear hb2); (try clear hk); (try clear hi); have hcz17_0 : w16.cell? ⟨gb333, 0, none⟩ = some (.int .i64 a0_0) := (blk_cell BK333.out 0).trans rfl; have hcz17_1 : w16.cell? ⟨gb333, 1, none⟩ = some (.slice A0_1 l0_1.length c0_1) := (blk_cell BK333.out 1).trans rfl; have hfz17_0 := blk_frozen BK333.out 0; have hfz17_1 := blk_frozen BK333.out 1) | ((with_reducible refine gate_callee (f := 11) rfl ?_); refine goesL_ (some 15) rfl rfl Try.func11 (by kernel_rfl) rfl #[.agg #[.int .i64 a0_0, .slice A0_1 l0_1.length c0_1]] rfl (by (try simp only [List.map_toArray, List.map_cons, List.map_nil]); first | done | rfl | (simp only [List.length_drop, List.length_take]; rfl)) ?_; (with_reducible refine (haywainlaw11_as.calls k a0_0 _ _ l0_1 t336 t337 _ ?side1 ?side2 A10.out).mono ?_); (case side1 => repeat (first | exact (Kd.V_reads' HO0_1.out).2.2 | (with_reducible refine Kd.C_alloc ?_ _) | (with_reducible refine Kd.C_drewN ?_ _) | (with_reducible refine Kd.C_drew ?_))); (case side2 => exact (Kd.V_reads' HO0_1.out).2.1); rintro e w18 ⟨v338, rfl, ho0, hb⟩; refine ⟨_, rfl, ?_⟩; have n0_ := Aside0.mk (Kd.V_elder' (by (with_reducible repeat (first | apply Kd.V_alloc | apply Kd.V_drewN | apply Kd.V_drew)); exact HO0_1.out) (Kd.R_base ho0) hb); have n1_ := Aside0.mk (Kd.R_lower (Kd.R_newM (M := fun k_ => (w.heap.size ≤ k_)) ho0 (below_size (by repeat (first | (with_reducible first | exact HB.out | apply below_alloc | apply pw_below_drewN | apply below_drew1 | refine below_set ?_ GE333.out) | exact HB.out))) (fun k_ h_ => h_)) (below_size (by repeat (first | (with_reducible first | exact HB.out | apply below_alloc | apply pw_below_drewN | apply below_drew1 | refine below_set ?_ GE333.out) | exact HB.out)))); have n2_ := Aside0.mk (blk_below (g := gb333) (o := .cells #[.int .i64 a0_0, .slice A0_1 l0_1.length c0_1] 24 (0, 0)) (by (with_reducible repeat (first | refine blk_drewN ?_ _ | refine blk_drew ?_ | refine blk_alloc ?_ _)); exact BK333.out) hb); have n3_ := Aside0.mk (below_step (by repeat (first | (with_reducible first | exact HB.out | apply below_alloc | apply pw_below_drewN | apply below_drew1 | refine below_set ?_ GE333.out) | exact HB.out)) hb); clear HO0_1; clear BK333; clear HB; have HO0_1 := n0_; have HO339 := n1_; have BK333 := n2_; have HB := n3_; clear n0_ n1_ n2_ n3_; (try clear hb); (try clear hb2); (try clear hk); (try clear hi); (try clear ho0)) | ((with_reducible refine gate_dst (N := 5) rfl ?_); refine box_event ?hg (N := 5) ?hd (cs := #[.int .i64 0, .slice none 0 0]) (t := 29) ?hr ?_; (case hd => rfl); (case hg => rfl); (case hr => first | (go_simp; done) | (go_simp; rfl)); intro gb340 hg w19 hbox hb; have n0_ := Aside0.mk (Kd.V_below (Kd.V_elderB (by (with_reducible repeat (first | apply Kd.V_alloc | apply Kd.V_drewN | apply Kd.V_drew)); exact HO0_1.out) gb340 (Nat.le_of_eq hg.symm)) hb); have n1_ := Aside0.mk (Kd.R_below (by (with_reducible repeat (first | apply Kd.R_alloc | apply Kd.R_drewN | apply Kd.R_drew)); exact HO339.out) hb); have n2_ := Aside0.mk (blk_below (g := gb333) (o := .cells #[.int .i64 a0_0, .slice A0_1 l0_1.length c0_1] 24 (0, 0)) (by (with_reducible repeat (first | refine blk_drewN ?_ _ | refine blk_drew ?_ | refine blk_alloc ?_ _)); exact BK333.out) hb); have n3_ := Aside0.mk (below_step (by repeat (first | (with_reducible first | exact HB.out | apply below_alloc | apply pw_below_drewN | apply below_drew1 | refine below_set ?_ GE333.out) | exact HB.out)) hb); have n4_ := Aside0.mk (hbox); have n5_ := Aside0.mk ((by rw [hg]; exact (below_size (by repeat (first | (with_reducible first | exact HB.out | apply below_alloc | apply pw_below_drewN | apply below_drew1 | refine below_set ?_ GE333.out) | exact HB.out))) : w.heap.size ≤ gb340)); have n6_ := Aside0.mk ((by rw [hg]; exact (below_size (by repeat (first | (with_reducible first | exact HB.out | apply below_alloc | apply pw_below_drewN | apply below_drew1 | refine below_set ?_ GE333.out) | exact HB.out))) : w.heap.size ≤ gb340)); have n7_ := Aside0.mk ((by rw [hg]; exact Nat.ne_of_lt (blk_lt (g := gb333) (o := .cells #[.int .i64 a0_0, .slice A0_1 l0_1.length c0_1] 24 (0, 0)) (by (with_reducible repeat (first | refine blk_drewN ?_ _ | refine blk_drew ?_ | refine blk_alloc ?_ _)); exact BK333.out)) : gb333 ≠ gb340)); have n8_ := Aside0.mk ((by rw [hg]; exact Nat.ne_of_gt (blk_lt (g := gb333) (o := .cells #[.int .i64 a0_0, .slice A0_1 l0_1.length c0_1] 24 (0, 0)) (by (with_reducible repeat (first | refine blk_drewN ?_ _ | refine blk_drew ?_ | refine blk_alloc ?_ _)); exact BK333.out)) : gb340 ≠ gb333)); clear HO0_1; clear HO339; clear BK333; clear HB; have HO0_1 := n0_; have HO339 := n1_; have BK333 := n2_; have HB := n3_; have BK340 := n4_; have GW340 := n5_; have GE340 := n6_; have NB333_340 := n7_; have NB340_333 := n8_; clear n0_ n1_ n2_ n3_ n4_ n5_ n6_ n7_ n8_; clear hb hbox hg; have hnb20 := NB340_333.out; have hnc20 := NB333_340.out; have hcz21_0 : w19.cell? ⟨gb340, 0, none⟩ = some (.int .i64 0) := (blk_cell BK340.out 0).trans rfl; have hcz21_1 : w19.cell? ⟨gb340, 1, none⟩ = some (.slice none 0 0) := (blk_cell BK340.out 1).trans rfl; have hfz21_0 := blk_frozen BK340.out 0; have hfz21_1 := blk_frozen BK340.out 1; obtain ⟨Ao22, co22, eo22⟩ := Kd.R_slice HO339.out; subst eo22))
   have n0_ : Aside0 (Kd.V k59 59 ((w19.setCell ⟨gb340, 0, none⟩ (.int .i64 t336)).setCell ⟨gb340, 1, none⟩ (.slice Ao22 t337.length co22)) w.heap.size (fun k_ => (P0_1_ k_ ∨ w.heap.size ≤ k_) ∧ some k_ ≠ (.slice Ao22 t337.length co22 : Value).ownBlock ∧ k_ ≠ gb333 ∧ k_ ≠ gb340) (.slice A0_1 l0_1.length c0_1) l0_1) := ⟨by (with_reducible repeat (first | apply Kd.V_alloc | apply Kd.V_drewN | apply Kd.V_drew)); exact Kd.V_mono (Kd.V_far (p := ⟨gb340, 1, none⟩) (Kd.V_far (p := ⟨gb340, 0, none⟩) (Kd.V_mono HO0_1.out (fun k_ hk => (⟨hk, hk.2⟩ : _ ∧ k_ ≠ gb340))) (fun _ hk => hk.2) (.int .i64 t336)) (fun _ hk => hk.2) (.slice Ao22 t337.length co22)) (fun _ hk => ⟨hk.1.1.1.1, ⟨hk.1.1.2, ⟨hk.1.1.1.2, hk.1.2⟩⟩⟩)⟩
   have n1_ : Aside0 (Kd.R k60 60 ((w19.setCell ⟨gb340, 0, none⟩ (.int .i64 t336)).setCell ⟨gb340, 1, none⟩ (.slice Ao22 t337.length co22)) w.heap.size (fun k_ => (w.heap.size ≤ k_)) (.slice Ao22 t337.length co22) t337) := ⟨by (with_reducible repeat (first | apply Kd.R_alloc | apply Kd.R_drewN | apply Kd.R_drew)); exact Kd.R_mono (Kd.R_far (p := ⟨gb340, 1, none⟩) (Kd.R_far (p := ⟨gb340, 0, none⟩) (Kd.R_types HO339.out BK340.out (by decide)) (fun _ hk => hk.2) (.int .i64 t336)) (fun _ hk => hk.2) (.slice Ao22 t337.length co22)) (fun _ hk => hk.1.1)⟩
   have n2_ : Aside0 (((w19.setCell ⟨gb340, 0, none⟩ (.int .i64 t336)).setCell ⟨gb340, 1, none⟩ (.slice Ao22 t337.length co22)).heap[gb333]? = some (.cells #[.int .i64 a0_0, .slice A0_1 l0_1.length c0_1] 24 (0, 0))) := ⟨by (with_reducible repeat (first | refine blk_drewN ?_ _ | refine blk_drew ?_ | refine blk_alloc ?_ _)); refine blk_far ?_ NB333_340.out _; (with_reducible repeat (first | refine blk_drewN ?_ _ | refine blk_drew ?_ | refine blk_alloc ?_ _)); refine blk_far ?_ NB333_340.out _; (with_reducible repeat (first | refine blk_drewN ?_ _ | refine blk_drew ?_ | refine blk_alloc ?_ _)); exact BK333.out⟩
   have n3_ : Aside0 (((w19.setCell ⟨gb340, 0, none⟩ (.int .i64 t336)).setCell ⟨gb340, 1, none⟩ (.slice Ao22 t337.length co22)).heap[gb340]? = some (.cells #[.int .i64 t336, .slice Ao22 t337.length co22] 29 (0, 0))) := ⟨by (with_reducible repeat (first | refine blk_drewN ?_ _ | refine blk_drew ?_ | refine blk_alloc ?_ _)); refine blk_put (cs := #[.int .i64 t336, .slice none 0 0]) ?_ 1 _ rfl; (with_reducible repeat (first | refine blk_drewN ?_ _ | refine blk_drew ?_ | refine blk_alloc ?_ _)); refine blk_put (cs := #[.int .i64 0, .slice none 0 0]) ?_ 0 _ rfl; (with_reducible repeat (first | refine blk_drewN ?_ _ | refine blk_drew ?_ | refine blk_alloc ?_ _)); exact BK340.out⟩
   have n4_ : Aside0 (Below w.heap.size w ((w19.setCell ⟨gb340, 0, none⟩ (.int .i64 t336)).setCell ⟨gb340, 1, none⟩ (.slice Ao22 t337.length co22))) := ⟨by repeat (first | (with_reducible first | exact HB.out | apply below_alloc | apply pw_below_drewN | apply below_drew1 | refine below_set ?_ GE333.out | refine below_set ?_ GE340.out) | exact HB.out)⟩
   (try clear HO0_1)
   (try clear HO339)
   (try clear BK333)
   (try clear BK340)
   (try clear HB)
   generalize ((w19.setCell ⟨gb340, 0, none⟩ (.int .i64 t336)).setCell ⟨gb340, 1, none⟩ (.slice Ao22 t337.length co22)) = w23 at n0_ n1_ n2_ n3_ n4_ ⊢
   have HO0_1 := n0_
   have HO339 := n1_
   have BK333 := n2_
   have BK340 := n3_
   have HB := n4_
   clear n0_ n1_ n2_ n3_ n4_
   have n0_ := Aside0.mk (Kd.V_drew HO0_1.out)
   have n1_ := Aside0.mk (Kd.R_drew HO339.out)
   have n2_ := Aside0.mk (blk_drew BK333.out)
   have n3_ := Aside0.mk (blk_drew BK340.out)
   have n4_ := Aside0.mk (below_drew1 HB.out)
   clear HO0_1
   clear HO339
   clear BK333
   clear BK340
   clear HB
   have HO0_1 := n0_
   have HO339 := n1_
   have BK333 := n2_
   have BK340 := n3_
   have HB := n4_
   clear n0_ n1_ n2_ n3_ n4_
   refine start_ (n := 5) (S := fun w' => w'.cell? ⟨gb333, 0, none⟩ = some (.int .i64 a0_0) ∧ w'.cell? ⟨gb333, 1, none⟩ = some (.slice A0_1 l0_1.length c0_1) ∧ w'.cell? ⟨gb340, 0, none⟩ = some (.int .i64 t336) ∧ w'.cell? ⟨gb340, 1, none⟩ = some (.slice Ao22 t337.length co22)) (ds := []) #[false, false, false, false, false] (by kernel_rfl) rfl rfl ⟨(blk_cell BK333.out 0).trans rfl, (blk_cell BK333.out 1).trans rfl, (blk_cell BK340.out 0).trans rfl, (blk_cell BK340.out 1).trans rfl⟩ (fun hHeld => ?_)
   generalize w23.drew = w24 at HO0_1 HO339 BK333 BK340 HB hHeld ⊢
   refine take_ (i := 0) (N := some 16) (v := ?_) (a' := ?_) #[true, false, false, false, false] rfl rfl (by kernel_rfl) (fun _ _ _ h => h) (Or.inl ⟨by rfl, ?_⟩) hHeld ?_ ?_
   rotate_left
   ·rintro w' ⟨s0, s1, s2, s3⟩
    go_simp
    with_reducible rfl
   rotate_left
   ·simp only [Act.put, List.setIfInBounds_toArray, List.set_cons_zero, List.set_cons_succ, i64_w, i32_w]
    rfl
   refine take_ (i := 2) (N := some 18) (v := ?_) (a' := ?_) #[true, false, true, false, false] rfl rfl (by kernel_rfl) (fun _ _ _ h => h) (Or.inl ⟨by rfl, ?_⟩) hHeld ?_ ?_
   rotate_left
   ·rintro w' ⟨s0, s1, s2, s3⟩
    go_simp
    with_reducible rfl
   rotate_left
   ·simp only [Act.put, List.setIfInBounds_toArray, List.set_cons_zero, List.set_cons_succ, i64_w, i32_w]
    rfl
   refine one_ (i := 1) (N := some 17) #[true, true, true, false, false] rfl rfl (by kernel_rfl) (by decide) (fun K hK => ?_)
   refine goes_ Try.func19 (by kernel_rfl) rfl #[.agg #[.int .i64 a0_0, .slice A0_1 l0_1.length c0_1]] (by rfl) rfl rfl (by (try simp only [List.map_toArray, List.map_cons, List.map_nil]); first | done | rfl | (simp only [List.length_drop, List.length_take]; rfl)) ?_
   with_reducible refine (view_Right.calls k a0_0 _ _ l0_1 t341 _ ?side1 ?side2 A11.out).mono ?_
   (case side1 => repeat (first | exact (Kd.V_reads' HO0_1.out).2.2 | (with_reducible refine Kd.C_alloc ?_ _) | (with_reducible refine Kd.C_drewN ?_ _) | (with_reducible refine Kd.C_drew ?_)))
   (case side2 => exact (Kd.V_reads' HO0_1.out).2.1)
   rintro e w25 ⟨rfl, hb⟩
   refine ⟨_, rfl, ?_⟩
   have n0_ := Aside0.mk (Kd.V_below (by (with_reducible repeat (first | apply Kd.V_alloc | apply Kd.V_drewN | apply Kd.V_drew)); exact HO0_1.out) hb)
   have n1_ := Aside0.mk (Kd.R_below (by (with_reducible repeat (first | apply Kd.R_alloc | apply Kd.R_drewN | apply Kd.R_drew)); exact HO339.out) hb)
   have n2_ := Aside0.mk (blk_below (g := gb333) (o := .cells #[.int .i64 a0_0, .slice A0_1 l0_1.length c0_1] 24 (0, 0)) (by (with_reducible repeat (first | refine blk_drewN ?_ _ | refine blk_drew ?_ | refine blk_alloc ?_ _)); exact BK333.out) hb)
   have n3_ := Aside0.mk (blk_below (g := gb340) (o := .cells #[.int .i64 t336, .slice Ao22 t337.length co22] 29 (0, 0)) (by (with_reducible repeat (first | refine blk_drewN ?_ _ | refine blk_drew ?_ | refine blk_alloc ?_ _)); exact BK340.out) hb)
   have n4_ := Aside0.mk (below_step (by repeat (first | (with_reducible first | exact HB.out | apply below_alloc | apply pw_below_drewN | apply below_drew1 | refine below_set ?_ GE333.out | refine below_set ?_ GE340.out) | exact HB.out)) hb)
   clear HO0_1
   clear HO339
   clear BK333
   clear BK340
   clear HB
   have HO0_1 := n0_
   have HO339 := n1_
   have BK333 := n2_
   have BK340 := n3_
   have HB := n4_
   clear n0_ n1_ n2_ n3_ n4_
   (try clear hb)
   (try clear hb2)
   (try clear hk)
   (try clear hi)
   refine hK.out _ _ ⟨(blk_cell BK333.out 0).trans rfl, (blk_cell BK333.out 1).trans rfl, (blk_cell BK340.out 0).trans rfl, (blk_cell BK340.out 1).trans rfl⟩ (fun hHeld => ?_)
   clear hK K
   refine norm_ (a' := ?_) ?_ ?_
   rotate_left
   ·show Act.put _ (some 17) _ = _
    simp only [Act.put, List.setIfInBounds_toArray, List.set_cons_zero, List.set_cons_succ, i64_w, i32_w]
    rfl
   refine one_ (i := 3) (N := some 19) #[true, true, true, true, false] rfl rfl (by kernel_rfl) (by decide) (fun K hK => ?_)
   refine goes_ Try.func20 (by kernel_rfl) rfl #[.agg #[.int .i64 t336, .slice Ao22 t337.length co22]] (by rfl) rfl rfl (by (try simp only [List.map_toArray, List.map_cons, List.map_nil]); first | done | rfl | (simp only [List.length_drop, List.length_take]; rfl)) ?_
   with_reducible refine (haywainref11_Right.calls k t336 _ _ t337 t342 _ ?side1 ?side2 A12.out).mono ?_
   (case side1 => repeat (first | exact (Kd.R_reads' HO339.out).2.2 | (with_reducible refine Kd.C_alloc ?_ _) | (with_reducible refine Kd.C_drewN ?_ _) | (with_reducible refine Kd.C_drew ?_)))
   (case side2 => exact (Kd.R_reads' HO339.out).2.1)
   rintro e w26 ⟨rfl, hb⟩
   refine ⟨_, rfl, ?_⟩
   have n0_ := Aside0.mk (Kd.V_below (by (with_reducible repeat (first | apply Kd.V_alloc | apply Kd.V_drewN | apply Kd.V_drew)); exact HO0_1.out) hb)
   have n1_ := Aside0.mk (Kd.R_below (by (with_reducible repeat (first | apply Kd.R_alloc | apply Kd.R_drewN | apply Kd.R_drew)); exact HO339.out) hb)
   have n2_ := Aside0.mk (blk_below (g := gb333) (o := .cells #[.int .i64 a0_0, .slice A0_1 l0_1.length c0_1] 24 (0, 0)) (by (with_reducible repeat (first | refine blk_drewN ?_ _ | refine blk_drew ?_ | refine blk_alloc ?_ _)); exact BK333.out) hb)
   have n3_ := Aside0.mk (blk_below (g := gb340) (o := .cells #[.int .i64 t336, .slice Ao22 t337.length co22] 29 (0, 0)) (by (with_reducible repeat (first | refine blk_drewN ?_ _ | refine blk_drew ?_ | refine blk_alloc ?_ _)); exact BK340.out) hb)
   have n4_ := Aside0.mk (below_step (by repeat (first | (with_reducible first | exact HB.out | apply below_alloc | apply pw_below_drewN | apply below_drew1 | refine below_set ?_ GE333.out | refine below_set ?_ GE340.out) | exact HB.out)) hb)
   clear HO0_1
   clear HO339
   clear BK333
   clear BK340
   clear HB
   have HO0_1 := n0_
   have HO339 := n1_
   have BK333 := n2_
   have BK340 := n3_
   have HB := n4_
   clear n0_ n1_ n2_ n3_ n4_
   (try clear hb)
   (try clear hb2)
   (try clear hk)
   (try clear hi)
   refine hK.out _ _ ⟨(blk_cell BK333.out 0).trans rfl, (blk_cell BK333.out 1).trans rfl, (blk_cell BK340.out 0).trans rfl, (blk_cell BK340.out 1).trans rfl⟩ (fun hHeld => ?_)
   clear hK K
   refine norm_ (a' := ?_) ?_ ?_
   rotate_left
   ·show Act.put _ (some 19) _ = _
    simp only [Act.put, List.setIfInBounds_toArray, List.set_cons_zero, List.set_cons_succ, i64_w, i32_w]
    rfl
   refine pure_ (i := 4) (N := some 20) (v := ?_) (a' := ?_) #[true, true, true, true, true] rfl rfl (by kernel_rfl) (fun _ _ _ h => h) (Or.inl ⟨by rfl, ?_⟩) ?_ ?_
   rotate_left
   ·intro w'
    go_simp
    with_reducible rfl
   rotate_left
   ·simp only [Act.put, List.setIfInBounds_toArray, List.set_cons_zero, List.set_cons_succ, i64_w, i32_w]
    rfl
   refine done_ (by kernel_rfl) ?_
   try go_wp2
   go_loopg [6] k (fun kq v6 w' => ∃ (x6_1 : Int) (x334000_1 : Int) (x334001_1 : List (S59)) (x341000_1 : Int) (x341001_1 : List (S60)) (u334001 : Value) (u341001 : Value), v6 = .int .i64 x6_1 ∧ Aside0 (haywainlaw11_ViewPlays.l0 kq l1 x6_1 x334000_1 x334001_1 x341000_1 x341001_1 = some r) ∧ Aside0 (kq ≤ k) ∧ Aside0 (Kd.V k59 59 w' w.heap.size (fun k_ => (P0_1_ k_ ∨ w.heap.size ≤ k_) ∧ k_ ≠ gb333 ∧ k_ ≠ gb340) u334001 x334001_1) ∧ Aside0 (Kd.V k60 60 w' w.heap.size (fun k_ => (P0_1_ k_ ∨ w.heap.size ≤ k_) ∧ k_ ≠ gb333 ∧ k_ ≠ gb340) u341001 x341001_1) ∧ Aside0 (w'.heap[gb333]? = some (.cells #[.int .i64 x334000_1, u334001] 24 (0, 0))) ∧ Aside0 (w'.heap[gb340]? = some (.cells #[.int .i64 x341000_1, u341001] 29 (0, 0))) ∧ Aside0 (Below w.heap.size w w'))
   case atStart => exact ⟨(0), (a0_0), (l0_1), (t336), (t337), (.slice A0_1 l0_1.length c0_1), (.slice Ao22 t337.length co22), (by first | rfl | (simp; done) | (simp [*]; done)), H', ⟨Nat.le_refl _⟩, ⟨by (with_reducible repeat (first | apply Kd.V_alloc | apply Kd.V_drewN | apply Kd.V_drew)); exact Kd.V_mono HO0_1.out (fun _ hk => ⟨hk.1, ⟨hk.2.2.1, hk.2.2.2⟩⟩)⟩, ⟨Kd.V_mono (Kd.R_V (by (with_reducible repeat (first | apply Kd.R_alloc | apply Kd.R_drewN | apply Kd.R_drew)); exact (Kd.R_types (Kd.R_types HO339.out BK333.out (by decide)) BK340.out (by decide)))) (fun k_ hk => by first | exact ⟨(.inr (hk.1.1)), ⟨hk.1.2, hk.2⟩⟩ | exact ⟨(.inr (hk.1)), hk.2⟩ | exact (.inr (hk)))⟩, ⟨by (with_reducible repeat (first | refine blk_drewN ?_ _ | refine blk_drew ?_ | refine blk_alloc ?_ _)); exact BK333.out⟩, ⟨by (with_reducible repeat (first | refine blk_drewN ?_ _ | refine blk_drew ?_ | refine blk_alloc ?_ _)); exact BK340.out⟩, ⟨by repeat (first | (with_reducible first | exact HB.out | apply below_alloc | apply pw_below_drewN | apply below_drew1 | refine below_set ?_ GE333.out | refine below_set ?_ GE340.out) | exact HB.out)⟩⟩
   case round =>
    clear H'
    try clear c1
    try clear c2
    try clear p2
    try clear c4
    try clear c9
    try clear c10
    try clear c11
    try clear c13
    try clear c13b0
    try clear c13b1
    try clear c13b2
    try clear c19
    try clear c20
    try clear hcz15_0
    try clear hcz15_1
    try clear hcz17_0
    try clear hcz17_1
    try clear hcz21_0
    try clear hcz21_1
    try clear hcz7_0
    try clear hcz7_1
    try clear hfz15_0
    try clear hfz15_1
    try clear hfz17_0
    try clear hfz17_1
    try clear hfz21_0
    try clear hfz21_1
    try clear hfz7_0
    try clear hfz7_1
    obtain ⟨x6_1, x334000_1, x334001_1, x341000_1, x341001_1, u334001, u341001, rfl, HA, HK1, HO_334001, HO_341001, BK333, BK340, HB⟩ := hrel
    cases gk with
    | zero => exact absurd HA.out (by simp [haywainlaw11_ViewPlays.l0])
    | succ k1 =>
     have H := HA.out
     clear HA
     simp only [haywainlaw11_ViewPlays.l0] at H
     have HC27 := Aside0.mk H
     clear H
     go_upto_region 7 with (fail)
     go_cut [28] (fun v28 wc => ∃ (kq : Nat) (x28_26 : Bool), v28 = .bool x28_26 ∧ Aside0 (haywainlaw11_ViewPlays.j1 kq l1 x6_1 x28_26 x334000_1 x334001_1 x341000_1 x341001_1 = some r) ∧ Aside0 (kq ≤ k1) ∧ Aside0 (Kd.V k59 59 wc w.heap.size (fun k_ => (P0_1_ k_ ∨ w.heap.size ≤ k_) ∧ k_ ≠ gb333 ∧ k_ ≠ gb340) u334001 x334001_1) ∧ Aside0 (Kd.V k60 60 wc w.heap.size (fun k_ => (P0_1_ k_ ∨ w.heap.size ≤ k_) ∧ k_ ≠ gb333 ∧ k_ ≠ gb340) u341001 x341001_1) ∧ Aside0 (wc.heap[gb333]? = some (.cells #[.int .i64 x334000_1, u334001] 24 (0, 0))) ∧ Aside0 (wc.heap[gb340]? = some (.cells #[.int .i64 x341000_1, u341001] 29 (0, 0))) ∧ Aside0 (Below w.heap.size w wc))
     case first =>
      have H := HC27.out
      clear HC27
      by_cases c28 : x6_1 < (l1.length : Int)
      ·rw [if_pos c28] at H
       have c28b0 : decide (x6_1 < (l1.length : Int)) = true := decide_eq_true c28
       clear c28
       (first | rw [c28b0] | (simp only [i64_w, i32_w]; rw [c28b0]) | skip)
       have H' := Aside0.mk H
       clear H
       go_wp2
       go_meet
       case rel => exact ⟨_, (decide (x6_1 < 40)), (by first | rfl | (simp; done) | (simp [*]; done)), H', ⟨by have := HK1.out; first | omega | exact Nat.le_refl _⟩, ⟨by (with_reducible repeat (first | apply Kd.V_alloc | apply Kd.V_drewN | apply Kd.V_drew)); exact HO_334001.out⟩, ⟨by (with_reducible repeat (first | apply Kd.V_alloc | apply Kd.V_drewN | apply Kd.V_drew)); exact HO_341001.out⟩, ⟨by (with_reducible repeat (first | refine blk_drewN ?_ _ | refine blk_drew ?_ | refine blk_alloc ?_ _)); exact BK333.out⟩, ⟨by (with_reducible repeat (first | refine blk_drewN ?_ _ | refine blk_drew ?_ | refine blk_alloc ?_ _)); exact BK340.out⟩, ⟨by repeat (first | (with_reducible first | exact HB.out | apply below_alloc | apply pw_below_drewN | apply below_drew1 | refine below_set ?_ GE333.out | refine below_set ?_ GE340.out) | exact HB.out)⟩⟩
      ·rw [if_neg c28] at H
       have c28b0 : decide (x6_1 < (l1.length : Int)) = false := decide_eq_false c28
       clear c28
       (first | rw [c28b0] | (simp only [i64_w, i32_w]; rw [c28b0]) | skip)
       have H' := Aside0.mk H
       clear H
       go_wp2
       go_meet
       case rel => exact ⟨_, (false), (by first | rfl | (simp; done) | (simp [*]; done)), H', ⟨by have := HK1.out; first | omega | exact Nat.le_refl _⟩, ⟨by (with_reducible repeat (first | apply Kd.V_alloc | apply Kd.V_drewN | apply Kd.V_drew)); exact HO_334001.out⟩, ⟨by (with_reducible repeat (first | apply Kd.V_alloc | apply Kd.V_drewN | apply Kd.V_drew)); exact HO_341001.out⟩, ⟨by (with_reducible repeat (first | refine blk_drewN ?_ _ | refine blk_drew ?_ | refine blk_alloc ?_ _)); exact BK333.out⟩, ⟨by (with_reducible repeat (first | refine blk_drewN ?_ _ | refine blk_drew ?_ | refine blk_alloc ?_ _)); exact BK340.out⟩, ⟨by repeat (first | (with_reducible first | exact HB.out | apply below_alloc | apply pw_below_drewN | apply below_drew1 | refine below_set ?_ GE333.out | refine below_set ?_ GE340.out) | exact HB.out)⟩⟩
     case rest =>
      clear HC27
      try clear c1
      try clear c2
      try clear p2
      try clear c4
      try clear c9
      try clear c10
      try clear c11
      try clear c13
      try clear c13b0
      try clear c13b1
      try clear c13b2
      try clear c19
      try clear c20
      try clear c28
      try clear c28b0
      try clear hcz15_0
      try clear hcz15_1
      try clear hcz17_0
      try clear hcz17_1
      try clear hcz21_0
      try clear hcz21_1
      try clear hcz7_0
      try clear hcz7_1
      try clear hfz15_0
      try clear hfz15_1
      try clear hfz17_0
      try clear hfz17_1
      try clear hfz21_0
      try clear hfz21_1
      try clear hfz7_0
      try clear hfz7_1
      try clear p2
      obtain ⟨kq, x28_26, rfl, HA, HJ26, HO_334001, HO_341001, BK333, BK340, HB⟩ := hcut
      cases kq with
      | zero => exact absurd HA.out (by simp [haywainlaw11_ViewPlays.j1])
      | succ kj26 =>
       have H := HA.out
       clear HA
       simp only [haywainlaw11_ViewPlays.j1] at H
       by_cases c29 : x28_26 = true
       ·subst c29
        have H1 : (if 0 ≤ x6_1 then (if x6_1 < (l1.length : Int) then ((haywainlaw11_do.f kj26 x334000_1 x334001_1 ((rd_T46 l1 x6_1).f0) ((rd_T46 l1 x6_1).f1) ((rd_T46 l1 x6_1).f2)).bind fun bt345 => (if ((rd_T46 l1 x6_1).f0) = 0 then ((haywainref11_Join.f kj26 x341000_1 x341001_1 ((rd_T46 l1 x6_1).f1) ((rd_T46 l1 x6_1).f2)).bind fun bt355 => (haywainlaw11_ViewPlays.j2 kj26 l1 x6_1 bt345.2.2 bt355.2.2 bt345.1 bt345.2.1 bt355.1 bt355.2.1)) else ((haywainref11_Leave.f kj26 x341000_1 x341001_1 ((rd_T46 l1 x6_1).f1)).bind fun bt361 => (haywainlaw11_ViewPlays.j2 kj26 l1 x6_1 bt345.2.2 bt361.2.2 bt345.1 bt345.2.1 bt361.1 bt361.2.1)))) else (none)) else (none)) = some r := by rw [if_pos rfl] at H; exact H
        clear H
        have H := H1
        clear H1
        by_cases c30 : 0 ≤ x6_1
        ·rw [if_pos c30] at H
         have c30b0 : decide (0 ≤ x6_1) = true := decide_eq_true c30
         clear c30
         by_cases c31 : x6_1 < (l1.length : Int)
         ·rw [if_pos c31] at H
          have c31b0 : decide (x6_1 < (l1.length : Int)) = true := decide_eq_true c31
          clear c31
          replace H := Option.bind_eq_some_iff.mp H
          obtain ⟨⟨t345, t346, t349⟩, A320, H⟩ := H
          replace H : (if ((rd_T46 l1 x6_1).f0) = 0 then ((haywainref11_Join.f kj26 x341000_1 x341001_1 ((rd_T46 l1 x6_1).f1) ((rd_T46 l1 x6_1).f2)).bind fun bt355 => (haywainlaw11_ViewPlays.j2 kj26 l1 x6_1 t349 bt355.2.2 t345 t346 bt355.1 bt355.2.1)) else ((haywainref11_Leave.f kj26 x341000_1 x341001_1 ((rd_T46 l1 x6_1).f1)).bind fun bt361 => (haywainlaw11_ViewPlays.j2 kj26 l1 x6_1 t349 bt361.2.2 t345 t346 bt361.1 bt361.2.1))) = some r := H
          have A32 := Aside0.mk A320
          clear A320
          have HC33 := Aside0.mk H
          clear H
          obtain ⟨Ao34, co34, eo34⟩ := Kd.V_slice HO_334001.out
          subst eo34
          try go_wp2
          have n0_ := Aside0.mk (Kd.V_drew HO_334001.out)
          have n1_ := Aside0.mk (Kd.V_drew HO_341001.out)
          have n2_ := Aside0.mk (blk_drew BK333.out)
          have n3_ := Aside0.mk (blk_drew BK340.out)
          have n4_ := Aside0.mk (below_drew1 HB.out)
          clear HO_334001
          clear HO_341001
          clear BK333
          clear BK340
          clear HB
          have HO_334001 := n0_
          have HO_341001 := n1_
          have BK333 := n2_
          have BK340 := n3_
          have HB := n4_
          clear n0_ n1_ n2_ n3_ n4_
          have p344 : 0 ≤ (x6_1 : Int) := of_decide_eq_true (by first | (with_reducible assumption) | assumption)
          have q344 : x6_1 < (l1.length : Int) := of_decide_eq_true (by first | (with_reducible assumption) | assumption)
          obtain ⟨ad344, e344, hx344_0, hx344_1, hx344_2⟩ := at_T46 HR1.out x6_1 p344 q344
          have hw344_2 := hx344_2
          have hw344_1 := hx344_1
          have hw344_0 := hx344_0
          cases e344
          replace hx344_0 := (HB.out.cell (World.block_lt_of_cell? w _ hx344_0)).trans hx344_0
          replace hx344_1 := (HB.out.cell (World.block_lt_of_cell? w _ hx344_1)).trans hx344_1
          replace hx344_2 := (HB.out.cell (World.block_lt_of_cell? w _ hx344_2)).trans hx344_2
          replace p344 := eq_true p344
          replace q344 := eq_true q344
          refine start_ (n := 12) (S := fun w' => w'.cell? ⟨gb333, 0, none⟩ = some (.int .i64 x334000_1) ∧ w'.cell? ⟨gb333, 1, none⟩ = some (.slice Ao34 x334001_1.length co34) ∧ w'.cell? (ad344.add ((x6_1).toNat * 3)) = some (.int .i64 ((rd_T46 l1 x6_1).f0)) ∧ w'.cell? ⟨(ad344.add ((x6_1).toNat * 3)).block, (ad344.add ((x6_1).toNat * 3)).off + 1, none⟩ = some (.int .i64 ((rd_T46 l1 x6_1).f1)) ∧ w'.cell? ⟨(ad344.add ((x6_1).toNat * 3)).block, (ad344.add ((x6_1).toNat * 3)).off + 2, none⟩ = some (.int .i64 ((rd_T46 l1 x6_1).f2))) (ds := []) #[false, false, false, false, false, false, false, false, false, false, false, false] (by kernel_rfl) rfl rfl ⟨(blk_cell BK333.out 0).trans rfl, (blk_cell BK333.out 1).trans rfl, ((HB.out.cell (World.block_lt_of_cell? w _ hw344_0)).trans hw344_0), ((HB.out.cell (World.block_lt_of_cell? w _ hw344_1)).trans hw344_1), ((HB.out.cell (World.block_lt_of_cell? w _ hw344_2)).trans hw344_2)⟩ (fun hHeld => ?_); refine with_tabW haywainlaw11_ViewPlays.tab9 haywainlaw11_ViewPlays.bits9 (fun HT_ HW_ => ?_)
          generalize wc.drew = w35 at HO_334001 HO_341001 BK333 BK340 HB hx344_0 hx344_1 hx344_2 hHeld ⊢
          refine pure_ (i := 1) (N := some 33) (v := ?_) (a' := ?_) #[false, true, false, false, false, false, false, false, false, false, false, false] rfl rfl (any_of HT_.out (by kernel_rfl)) (fun _ _ _ h => h) (Or.inl ⟨by rfl, ?_⟩) ?_ ?_
          rotate_left
          ·intro w'
           go_simp
           with_reducible rfl
          rotate_left
          ·simp only [Act.put, List.setIfInBounds_toArray, List.set_cons_zero, List.set_cons_succ, i64_w, i32_w]
           rfl
          refine pure_ (i := 2) (N := some 34) (v := ?_) (a' := ?_) #[false, true, true, false, false, false, false, false, false, false, false, false] rfl rfl (any_of HT_.out (by kernel_rfl)) (fun _ _ _ h => h) (Or.inl ⟨by rfl, ?_⟩) ?_ ?_
          rotate_left
          ·intro w'
           go_simp
           with_reducible rfl
          rotate_left
          ·simp only [Act.put, List.setIfInBounds_toArray, List.set_cons_zero, List.set_cons_succ, i64_w, i32_w]
           rfl
          refine pure_ (i := 3) (N := some 35) (v := ?_) (a' := ?_) #[false, true, true, true, false, false, false, false, false, false, false, false] rfl rfl (any_of HT_.out (by kernel_rfl)) (fun _ _ _ h => h) (Or.inl ⟨by rfl, ?_⟩) ?_ ?_
          rotate_left
          ·intro w'
           go_simp
           with_reducible rfl
          rotate_left
          ·simp only [Act.put, List.setIfInBounds_toArray, List.set_cons_zero, List.set_cons_succ, i64_w, i32_w]
           rfl
          refine take_ (i := 0) (N := some 32) (v := ?_) (a' := ?_) #[true, true, true, true, false, false, false, false, false, false, false, false] rfl rfl (take_ofW HT_.out HW_.out (by kernel_rfl)) (fun _ _ _ h => h) (Or.inl ⟨by rfl, ?_⟩) hHeld ?_ ?_
          rotate_left
          ·rintro w' ⟨s0, s1, s2, s3, s4⟩
           go_simp
           with_reducible rfl
          rotate_left
          ·simp only [Act.put, List.setIfInBounds_toArray, List.set_cons_zero, List.set_cons_succ, i64_w, i32_w]
           rfl
          refine take_ (i := 4) (N := some 36) (v := ?_) (a' := ?_) #[true, true, true, true, true, false, false, false, false, false, false, false] rfl rfl (take_ofW HT_.out HW_.out (by kernel_rfl)) (fun _ _ _ h => h) (Or.inl ⟨by rfl, ?_⟩) hHeld ?_ ?_
          rotate_left
          ·rintro w' ⟨s0, s1, s2, s3, s4⟩
           go_simp
           with_reducible rfl
          rotate_left
          ·simp only [Act.put, List.setIfInBounds_toArray, List.set_cons_zero, List.set_cons_succ, i64_w, i32_w]
           rfl
          refine join_ (σ := Value × Nat) 2 #[true, true, true, true, true, true, true, true, true, true, false, false] (fun s_ => [(37, .tuple #[.agg #[.int .i64 t345, s_.1], .int .i64 t349]), (7, .pointer (some ⟨s_.2, 0, none⟩)), (31, .tuple #[.agg #[.int .i64 t345, s_.1], .int .i64 t349]), (38, .agg #[.int .i64 t345, s_.1]), (39, .int .i64 t349)]) (fun s_ w' => (w'.cell? ⟨gb333, 0, none⟩ = some (.int .i64 x334000_1) ∧ w'.cell? ⟨gb333, 1, none⟩ = some (.slice Ao34 x334001_1.length co34) ∧ w'.cell? (ad344.add ((x6_1).toNat * 3)) = some (.int .i64 ((rd_T46 l1 x6_1).f0)) ∧ w'.cell? ⟨(ad344.add ((x6_1).toNat * 3)).block, (ad344.add ((x6_1).toNat * 3)).off + 1, none⟩ = some (.int .i64 ((rd_T46 l1 x6_1).f1)) ∧ w'.cell? ⟨(ad344.add ((x6_1).toNat * 3)).block, (ad344.add ((x6_1).toNat * 3)).off + 2, none⟩ = some (.int .i64 ((rd_T46 l1 x6_1).f2))) ∧ (Kd.R k59 59 w' w.heap.size (fun k_ => (w.heap.size ≤ k_)) s_.1 t346) ∧ (Kd.V k59 59 w' w.heap.size (fun k_ => (P0_1_ k_ ∨ w.heap.size ≤ k_) ∧ some k_ ≠ (s_.1 : Value).ownBlock ∧ k_ ≠ gb333 ∧ k_ ≠ gb340 ∧ k_ ≠ s_.2) (.slice Ao34 x334001_1.length co34) x334001_1) ∧ (Kd.V k60 60 w' w.heap.size (fun k_ => (P0_1_ k_ ∨ w.heap.size ≤ k_) ∧ some k_ ≠ (s_.1 : Value).ownBlock ∧ k_ ≠ gb333 ∧ k_ ≠ gb340 ∧ k_ ≠ s_.2) u341001 x341001_1) ∧ (w'.heap[gb333]? = some (.cells #[.int .i64 x334000_1, .slice Ao34 x334001_1.length co34] 24 (0, 0))) ∧ (w'.heap[gb340]? = some (.cells #[.int .i64 x341000_1, u341001] 29 (0, 0))) ∧ (w'.heap[s_.2]? = some (.cells #[.int .i64 0, .slice none 0 0] 24 (0, 0))) ∧ (w.heap.size ≤ s_.2) ∧ (w.heap.size ≤ s_.2) ∧ (gb333 ≠ s_.2) ∧ (s_.2 ≠ gb333) ∧ (gb340 ≠ s_.2) ∧ (s_.2 ≠ gb340) ∧ (Below w.heap.size w w')) ?_ ?_
          rotate_left
          ·intro hCont
           refine two_ (i := 5) (j := 9) (Ni := some 37) (Nj := some 7) #[true, true, true, true, true, true, false, false, false, false, false, false] #[true, true, true, true, true, false, false, false, false, true, false, false] rfl rfl rfl rfl (two_of HT_.out (by kernel_rfl)) (by decide) (by decide) (fun K hK => ?_) (fun K hK => ?_)
           ·skip
            refine goes_ Try.func21 (by kernel_rfl) rfl #[.agg #[.int .i64 x334000_1, .slice Ao34 x334001_1.length co34], .agg #[.int .i64 ((rd_T46 l1 x6_1).f0), .int .i64 ((rd_T46 l1 x6_1).f1), .int .i64 ((rd_T46 l1 x6_1).f2)]] (by rfl) rfl rfl (by (try simp only [List.map_toArray, List.map_cons, List.map_nil]); first | done | rfl | (simp only [List.length_drop, List.length_take]; rfl)) ?_
            with_reducible refine (haywainlaw11_do.calls kj26 x334000_1 _ _ x334001_1 ((rd_T46 l1 x6_1).f0) ((rd_T46 l1 x6_1).f1) ((rd_T46 l1 x6_1).f2) t345 t346 t349 _ ?side1 ?side2 A32.out).mono ?_
            (case side1 => repeat (first | exact (Kd.V_reads' HO_334001.out).2.2 | (with_reducible refine Kd.C_alloc ?_ _) | (with_reducible refine Kd.C_drewN ?_ _) | (with_reducible refine Kd.C_drew ?_)))
            (case side2 => exact (Kd.V_reads' HO_334001.out).2.1)
            rintro e w36 ⟨v347, rfl, ho0, hb⟩
            refine ⟨_, rfl, ?_⟩
            have n0_ := Aside0.mk (Kd.V_elder' (by (with_reducible repeat (first | apply Kd.V_alloc | apply Kd.V_drewN | apply Kd.V_drew)); exact HO_334001.out) (Kd.R_base ho0) hb)
            have n1_ := Aside0.mk (Kd.V_elder' (by (with_reducible repeat (first | apply Kd.V_alloc | apply Kd.V_drewN | apply Kd.V_drew)); exact HO_341001.out) (Kd.R_base ho0) hb)
            have n2_ := Aside0.mk (Kd.R_lower (Kd.R_newM (M := fun k_ => (w.heap.size ≤ k_)) ho0 (below_size (by repeat (first | (with_reducible first | exact HB.out | apply below_alloc | apply pw_below_drewN | apply below_drew1 | refine below_set ?_ GE333.out | refine below_set ?_ GE340.out) | exact HB.out))) (fun k_ h_ => h_)) (below_size (by repeat (first | (with_reducible first | exact HB.out | apply below_alloc | apply pw_below_drewN | apply below_drew1 | refine below_set ?_ GE333.out | refine below_set ?_ GE340.out) | exact HB.out))))
            have n3_ := Aside0.mk (blk_below (g := gb333) (o := .cells #[.int .i64 x334000_1, .slice Ao34 x334001_1.length co34] 24 (0, 0)) (by (with_reducible repeat (first | refine blk_drewN ?_ _ | refine blk_drew ?_ | refine blk_alloc ?_ _)); exact BK333.out) hb)
            have n4_ := Aside0.mk (blk_below (g := gb340) (o := .cells #[.int .i64 x341000_1, u341001] 29 (0, 0)) (by (with_reducible repeat (first | refine blk_drewN ?_ _ | refine blk_drew ?_ | refine blk_alloc ?_ _)); exact BK340.out) hb)
            have n5_ := Aside0.mk (below_step (by repeat (first | (with_reducible first | exact HB.out | apply below_alloc | apply pw_below_drewN | apply below_drew1 | refine below_set ?_ GE333.out | refine below_set ?_ GE340.out) | exact HB.out)) hb)
            clear HO_334001
            clear HO_341001
            clear BK333
            clear BK340
            clear HB
            have HO_334001 := n0_
            have HO_341001 := n1_
            have HO348 := n2_
            have BK333 := n3_
            have BK340 := n4_
            have HB := n5_
            clear n0_ n1_ n2_ n3_ n4_ n5_
            (try clear hb)
            (try clear hb2)
            (try clear hk)
            (try clear hi)
            (try clear ho0)
            refine hK.out _ _ ⟨(blk_cell BK333.out 0).trans rfl, (blk_cell BK333.out 1).trans rfl, ((HB.out.cell (World.block_lt_of_cell? w _ hw344_0)).trans hw344_0), ((HB.out.cell (World.block_lt_of_cell? w _ hw344_1)).trans hw344_1), ((HB.out.cell (World.block_lt_of_cell? w _ hw344_2)).trans hw344_2)⟩ (fun hHeld => ?_)
            clear hK K
            refine norm_ (a' := ?_) ?_ ?_
            rotate_left
            ·show Act.put _ (some 37) _ = _
             simp only [Act.put, List.setIfInBounds_toArray, List.set_cons_zero, List.set_cons_succ, i64_w, i32_w]
             rfl
            refine pure_ (i := 6) (N := some 31) (v := ?_) (a' := ?_) #[true, true, true, true, true, true, true, false, false, false, false, false] rfl rfl (any_of HT_.out (by kernel_rfl)) (fun _ _ _ h => h) (Or.inl ⟨by rfl, ?_⟩) ?_ ?_
            rotate_left
            ·intro w'
             go_simp
             with_reducible rfl
            rotate_left
            ·simp only [Act.put, List.setIfInBounds_toArray, List.set_cons_zero, List.set_cons_succ, i64_w, i32_w]
             rfl
            refine pure_ (i := 7) (N := some 38) (v := ?_) (a' := ?_) #[true, true, true, true, true, true, true, true, false, false, false, false] rfl rfl (any_of HT_.out (by kernel_rfl)) (fun _ _ _ h => h) (Or.inl ⟨by rfl, ?_⟩) ?_ ?_
            rotate_left
            ·intro w'
             go_simp
             with_reducible rfl
            rotate_left
            ·simp only [Act.put, List.setIfInBounds_toArray, List.set_cons_zero, List.set_cons_succ, i64_w, i32_w]
             rfl
            refine pure_ (i := 8) (N := some 39) (v := ?_) (a' := ?_) #[true, true, true, true, true, true, true, true, true, false, false, false] rfl rfl (any_of HT_.out (by kernel_rfl)) (fun _ _ _ h => h) (Or.inl ⟨by rfl, ?_⟩) ?_ ?_
            rotate_left
            ·intro w'
             go_simp
             with_reducible rfl
            rotate_left
            ·simp only [Act.put, List.setIfInBounds_toArray, List.set_cons_zero, List.set_cons_succ, i64_w, i32_w]
             rfl
            refine one_ (i := 9) (N := some 7) #[true, true, true, true, true, true, true, true, true, true, false, false] rfl rfl (one_of HT_.out (by kernel_rfl)) (by decide) (fun K hK => ?_)
            refine box_step ?hg (N := 7) ?hd (cs := #[.int .i64 0, .slice none 0 0]) (t := 24) ?hr ?_; (case hd => rfl); (case hg => rfl); (case hr => first | (go_simp; done) | (go_simp; rfl))
            intro gb350 hg w37 hbox hb
            have n0_ := Aside0.mk (Kd.V_below (Kd.V_elderB (by (with_reducible repeat (first | apply Kd.V_alloc | apply Kd.V_drewN | apply Kd.V_drew)); exact HO_334001.out) gb350 (Nat.le_of_eq hg.symm)) hb)
            have n1_ := Aside0.mk (Kd.V_below (Kd.V_elderB (by (with_reducible repeat (first | apply Kd.V_alloc | apply Kd.V_drewN | apply Kd.V_drew)); exact HO_341001.out) gb350 (Nat.le_of_eq hg.symm)) hb)
            have n2_ := Aside0.mk (Kd.R_below (by (with_reducible repeat (first | apply Kd.R_alloc | apply Kd.R_drewN | apply Kd.R_drew)); exact HO348.out) hb)
            have n3_ := Aside0.mk (blk_below (g := gb333) (o := .cells #[.int .i64 x334000_1, .slice Ao34 x334001_1.length co34] 24 (0, 0)) (by (with_reducible repeat (first | refine blk_drewN ?_ _ | refine blk_drew ?_ | refine blk_alloc ?_ _)); exact BK333.out) hb)
            have n4_ := Aside0.mk (blk_below (g := gb340) (o := .cells #[.int .i64 x341000_1, u341001] 29 (0, 0)) (by (with_reducible repeat (first | refine blk_drewN ?_ _ | refine blk_drew ?_ | refine blk_alloc ?_ _)); exact BK340.out) hb)
            have n5_ := Aside0.mk (below_step (by repeat (first | (with_reducible first | exact HB.out | apply below_alloc | apply pw_below_drewN | apply below_drew1 | refine below_set ?_ GE333.out | refine below_set ?_ GE340.out) | exact HB.out)) hb)
            have n6_ := Aside0.mk (hbox)
            have n7_ := Aside0.mk ((by rw [hg]; exact (below_size (by repeat (first | (with_reducible first | exact HB.out | apply below_alloc | apply pw_below_drewN | apply below_drew1 | refine below_set ?_ GE333.out | refine below_set ?_ GE340.out) | exact HB.out))) : w.heap.size ≤ gb350))
            have n8_ := Aside0.mk ((by rw [hg]; exact (below_size (by repeat (first | (with_reducible first | exact HB.out | apply below_alloc | apply pw_below_drewN | apply below_drew1 | refine below_set ?_ GE333.out | refine below_set ?_ GE340.out) | exact HB.out))) : w.heap.size ≤ gb350))
            have n9_ := Aside0.mk ((by rw [hg]; exact Nat.ne_of_lt (blk_lt (g := gb333) (o := .cells #[.int .i64 x334000_1, .slice Ao34 x334001_1.length co34] 24 (0, 0)) (by (with_reducible repeat (first | refine blk_drewN ?_ _ | refine blk_drew ?_ | refine blk_alloc ?_ _)); exact BK333.out)) : gb333 ≠ gb350))
            have n10_ := Aside0.mk ((by rw [hg]; exact Nat.ne_of_gt (blk_lt (g := gb333) (o := .cells #[.int .i64 x334000_1, .slice Ao34 x334001_1.length co34] 24 (0, 0)) (by (with_reducible repeat (first | refine blk_drewN ?_ _ | refine blk_drew ?_ | refine blk_alloc ?_ _)); exact BK333.out)) : gb350 ≠ gb333))
            have n11_ := Aside0.mk ((by rw [hg]; exact Nat.ne_of_lt (blk_lt (g := gb340) (o := .cells #[.int .i64 x341000_1, u341001] 29 (0, 0)) (by (with_reducible repeat (first | refine blk_drewN ?_ _ | refine blk_drew ?_ | refine blk_alloc ?_ _)); exact BK340.out)) : gb340 ≠ gb350))
            have n12_ := Aside0.mk ((by rw [hg]; exact Nat.ne_of_gt (blk_lt (g := gb340) (o := .cells #[.int .i64 x341000_1, u341001] 29 (0, 0)) (by (with_reducible repeat (first | refine blk_drewN ?_ _ | refine blk_drew ?_ | refine blk_alloc ?_ _)); exact BK340.out)) : gb350 ≠ gb340))
            clear HO_334001
            clear HO_341001
            clear HO348
            clear BK333
            clear BK340
            clear HB
            have HO_334001 := n0_
            have HO_341001 := n1_
            have HO348 := n2_
            have BK333 := n3_
            have BK340 := n4_
            have HB := n5_
            have BK350 := n6_
            have GW350 := n7_
            have GE350 := n8_
            have NB333_350 := n9_
            have NB350_333 := n10_
            have NB340_350 := n11_
            have NB350_340 := n12_
            clear n0_ n1_ n2_ n3_ n4_ n5_ n6_ n7_ n8_ n9_ n10_ n11_ n12_
            clear hb hbox hg
            refine hK.out _ _ ⟨(blk_cell BK333.out 0).trans rfl, (blk_cell BK333.out 1).trans rfl, ((HB.out.cell (World.block_lt_of_cell? w _ hw344_0)).trans hw344_0), ((HB.out.cell (World.block_lt_of_cell? w _ hw344_1)).trans hw344_1), ((HB.out.cell (World.block_lt_of_cell? w _ hw344_2)).trans hw344_2)⟩ (fun hHeld => ?_)
            clear hK K
            refine norm_ (a' := ?_) ?_ ?_
            rotate_left
            ·show Act.put _ (some 7) _ = _
             simp only [Act.put, List.setIfInBounds_toArray, List.set_cons_zero, List.set_cons_succ, i64_w, i32_w]
             rfl
            exact norm_ (by simp only [putAll, Act.put, List.setIfInBounds_toArray, List.set_cons_zero, List.set_cons_succ]) (hCont (v347, gb350) _ ⟨hHeld, (by (with_reducible repeat (first | apply Kd.R_alloc | apply Kd.R_drewN | apply Kd.R_drew)); exact Kd.R_mono HO348.out (fun _ hk => by first | exact hk.1 | trivial)), (by (with_reducible repeat (first | apply Kd.V_alloc | apply Kd.V_drewN | apply Kd.V_drew)); exact Kd.V_mono HO_334001.out (fun _ hk => ⟨hk.1.1.1, ⟨hk.1.2, ⟨hk.1.1.2.1, ⟨hk.1.1.2.2, hk.2⟩⟩⟩⟩)), (by (with_reducible repeat (first | apply Kd.V_alloc | apply Kd.V_drewN | apply Kd.V_drew)); exact Kd.V_mono HO_341001.out (fun _ hk => ⟨hk.1.1.1, ⟨hk.1.2, ⟨hk.1.1.2.1, ⟨hk.1.1.2.2, hk.2⟩⟩⟩⟩)), (by (with_reducible repeat (first | refine blk_drewN ?_ _ | refine blk_drew ?_ | refine blk_alloc ?_ _)); exact BK333.out), (by (with_reducible repeat (first | refine blk_drewN ?_ _ | refine blk_drew ?_ | refine blk_alloc ?_ _)); exact BK340.out), (by (with_reducible repeat (first | refine blk_drewN ?_ _ | refine blk_drew ?_ | refine blk_alloc ?_ _)); exact BK350.out), GW350.out, GE350.out, NB333_350.out, NB350_333.out, NB340_350.out, NB350_340.out, (by repeat (first | (with_reducible first | exact HB.out | apply below_alloc | apply pw_below_drewN | apply below_drew1 | refine below_set ?_ GE333.out | refine below_set ?_ GE340.out | refine below_set ?_ GE350.out) | exact HB.out))⟩)
           ·skip
            refine box_step ?hg (N := 7) ?hd (cs := #[.int .i64 0, .slice none 0 0]) (t := 24) ?hr ?_; (case hd => rfl); (case hg => rfl); (case hr => first | (go_simp; done) | (go_simp; rfl))
            intro gb350 hg w36 hbox hb
            have n0_ := Aside0.mk (Kd.V_below (Kd.V_elderB (by (with_reducible repeat (first | apply Kd.V_alloc | apply Kd.V_drewN | apply Kd.V_drew)); exact HO_334001.out) gb350 (Nat.le_of_eq hg.symm)) hb)
            have n1_ := Aside0.mk (Kd.V_below (Kd.V_elderB (by (with_reducible repeat (first | apply Kd.V_alloc | apply Kd.V_drewN | apply Kd.V_drew)); exact HO_341001.out) gb350 (Nat.le_of_eq hg.symm)) hb)
            have n2_ := Aside0.mk (blk_below (g := gb333) (o := .cells #[.int .i64 x334000_1, .slice Ao34 x334001_1.length co34] 24 (0, 0)) (by (with_reducible repeat (first | refine blk_drewN ?_ _ | refine blk_drew ?_ | refine blk_alloc ?_ _)); exact BK333.out) hb)
            have n3_ := Aside0.mk (blk_below (g := gb340) (o := .cells #[.int .i64 x341000_1, u341001] 29 (0, 0)) (by (with_reducible repeat (first | refine blk_drewN ?_ _ | refine blk_drew ?_ | refine blk_alloc ?_ _)); exact BK340.out) hb)
            have n4_ := Aside0.mk (below_step (by repeat (first | (with_reducible first | exact HB.out | apply below_alloc | apply pw_below_drewN | apply below_drew1 | refine below_set ?_ GE333.out | refine below_set ?_ GE340.out) | exact HB.out)) hb)
            have n5_ := Aside0.mk (hbox)
            have n6_ := Aside0.mk ((by rw [hg]; exact (below_size (by repeat (first | (with_reducible first | exact HB.out | apply below_alloc | apply pw_below_drewN | apply below_drew1 | refine below_set ?_ GE333.out | refine below_set ?_ GE340.out) | exact HB.out))) : w.heap.size ≤ gb350))
            have n7_ := Aside0.mk ((by rw [hg]; exact (below_size (by repeat (first | (with_reducible first | exact HB.out | apply below_alloc | apply pw_below_drewN | apply below_drew1 | refine below_set ?_ GE333.out | refine below_set ?_ GE340.out) | exact HB.out))) : w.heap.size ≤ gb350))
            have n8_ := Aside0.mk ((by rw [hg]; exact Nat.ne_of_lt (blk_lt (g := gb333) (o := .cells #[.int .i64 x334000_1, .slice Ao34 x334001_1.length co34] 24 (0, 0)) (by (with_reducible repeat (first | refine blk_drewN ?_ _ | refine blk_drew ?_ | refine blk_alloc ?_ _)); exact BK333.out)) : gb333 ≠ gb350))
            have n9_ := Aside0.mk ((by rw [hg]; exact Nat.ne_of_gt (blk_lt (g := gb333) (o := .cells #[.int .i64 x334000_1, .slice Ao34 x334001_1.length co34] 24 (0, 0)) (by (with_reducible repeat (first | refine blk_drewN ?_ _ | refine blk_drew ?_ | refine blk_alloc ?_ _)); exact BK333.out)) : gb350 ≠ gb333))
            have n10_ := Aside0.mk ((by rw [hg]; exact Nat.ne_of_lt (blk_lt (g := gb340) (o := .cells #[.int .i64 x341000_1, u341001] 29 (0, 0)) (by (with_reducible repeat (first | refine blk_drewN ?_ _ | refine blk_drew ?_ | refine blk_alloc ?_ _)); exact BK340.out)) : gb340 ≠ gb350))
            have n11_ := Aside0.mk ((by rw [hg]; exact Nat.ne_of_gt (blk_lt (g := gb340) (o := .cells #[.int .i64 x341000_1, u341001] 29 (0, 0)) (by (with_reducible repeat (first | refine blk_drewN ?_ _ | refine blk_drew ?_ | refine blk_alloc ?_ _)); exact BK340.out)) : gb350 ≠ gb340))
            clear HO_334001
            clear HO_341001
            clear BK333
            clear BK340
            clear HB
            have HO_334001 := n0_
            have HO_341001 := n1_
            have BK333 := n2_
            have BK340 := n3_
            have HB := n4_
            have BK350 := n5_
            have GW350 := n6_
            have GE350 := n7_
            have NB333_350 := n8_
            have NB350_333 := n9_
            have NB340_350 := n10_
            have NB350_340 := n11_
            clear n0_ n1_ n2_ n3_ n4_ n5_ n6_ n7_ n8_ n9_ n10_ n11_
            clear hb hbox hg
            refine hK.out _ _ ⟨(blk_cell BK333.out 0).trans rfl, (blk_cell BK333.out 1).trans rfl, ((HB.out.cell (World.block_lt_of_cell? w _ hw344_0)).trans hw344_0), ((HB.out.cell (World.block_lt_of_cell? w _ hw344_1)).trans hw344_1), ((HB.out.cell (World.block_lt_of_cell? w _ hw344_2)).trans hw344_2)⟩ (fun hHeld => ?_)
            clear hK K
            refine norm_ (a' := ?_) ?_ ?_
            rotate_left
            ·show Act.put _ (some 7) _ = _
             simp only [Act.put, List.setIfInBounds_toArray, List.set_cons_zero, List.set_cons_succ, i64_w, i32_w]
             rfl
            refine one_ (i := 5) (N := some 37) #[true, true, true, true, true, true, false, false, false, true, false, false] rfl rfl (one_of HT_.out (by kernel_rfl)) (by decide) (fun K hK => ?_)
            refine goes_ Try.func21 (by kernel_rfl) rfl #[.agg #[.int .i64 x334000_1, .slice Ao34 x334001_1.length co34], .agg #[.int .i64 ((rd_T46 l1 x6_1).f0), .int .i64 ((rd_T46 l1 x6_1).f1), .int .i64 ((rd_T46 l1 x6_1).f2)]] (by rfl) rfl rfl (by (try simp only [List.map_toArray, List.map_cons, List.map_nil]); first | done | rfl | (simp only [List.length_drop, List.length_take]; rfl)) ?_
            with_reducible refine (haywainlaw11_do.calls kj26 x334000_1 _ _ x334001_1 ((rd_T46 l1 x6_1).f0) ((rd_T46 l1 x6_1).f1) ((rd_T46 l1 x6_1).f2) t345 t346 t349 _ ?side1 ?side2 A32.out).mono ?_
            (case side1 => repeat (first | exact (Kd.V_reads' HO_334001.out).2.2 | (with_reducible refine Kd.C_alloc ?_ _) | (with_reducible refine Kd.C_drewN ?_ _) | (with_reducible refine Kd.C_drew ?_)))
            (case side2 => exact (Kd.V_reads' HO_334001.out).2.1)
            rintro e w37 ⟨v347, rfl, ho0, hb⟩
            refine ⟨_, rfl, ?_⟩
            have n0_ := Aside0.mk (Kd.V_elder' (by (with_reducible repeat (first | apply Kd.V_alloc | apply Kd.V_drewN | apply Kd.V_drew)); exact HO_334001.out) (Kd.R_base ho0) hb)
            have n1_ := Aside0.mk (Kd.V_elder' (by (with_reducible repeat (first | apply Kd.V_alloc | apply Kd.V_drewN | apply Kd.V_drew)); exact HO_341001.out) (Kd.R_base ho0) hb)
            have n2_ := Aside0.mk (Kd.R_lower (Kd.R_newM (M := fun k_ => (w.heap.size ≤ k_)) ho0 (below_size (by repeat (first | (with_reducible first | exact HB.out | apply below_alloc | apply pw_below_drewN | apply below_drew1 | refine below_set ?_ GE333.out | refine below_set ?_ GE340.out | refine below_set ?_ GE350.out) | exact HB.out))) (fun k_ h_ => h_)) (below_size (by repeat (first | (with_reducible first | exact HB.out | apply below_alloc | apply pw_below_drewN | apply below_drew1 | refine below_set ?_ GE333.out | refine below_set ?_ GE340.out | refine below_set ?_ GE350.out) | exact HB.out))))
            have n3_ := Aside0.mk (blk_below (g := gb333) (o := .cells #[.int .i64 x334000_1, .slice Ao34 x334001_1.length co34] 24 (0, 0)) (by (with_reducible repeat (first | refine blk_drewN ?_ _ | refine blk_drew ?_ | refine blk_alloc ?_ _)); exact BK333.out) hb)
            have n4_ := Aside0.mk (blk_below (g := gb340) (o := .cells #[.int .i64 x341000_1, u341001] 29 (0, 0)) (by (with_reducible repeat (first | refine blk_drewN ?_ _ | refine blk_drew ?_ | refine blk_alloc ?_ _)); exact BK340.out) hb)
            have n5_ := Aside0.mk (blk_below (g := gb350) (o := .cells #[.int .i64 0, .slice none 0 0] 24 (0, 0)) (by (with_reducible repeat (first | refine blk_drewN ?_ _ | refine blk_drew ?_ | refine blk_alloc ?_ _)); exact BK350.out) hb)
            have n6_ := Aside0.mk (below_step (by repeat (first | (with_reducible first | exact HB.out | apply below_alloc | apply pw_below_drewN | apply below_drew1 | refine below_set ?_ GE333.out | refine below_set ?_ GE340.out | refine below_set ?_ GE350.out) | exact HB.out)) hb)
            clear HO_334001
            clear HO_341001
            clear BK333
            clear BK340
            clear BK350
            clear HB
            have HO_334001 := n0_
            have HO_341001 := n1_
            have HO348 := n2_
            have BK333 := n3_
            have BK340 := n4_
            have BK350 := n5_
            have HB := n6_
            clear n0_ n1_ n2_ n3_ n4_ n5_ n6_
            (try clear hb)
            (try clear hb2)
            (try clear hk)
            (try clear hi)
            (try clear ho0)
            refine hK.out _ _ ⟨(blk_cell BK333.out 0).trans rfl, (blk_cell BK333.out 1).trans rfl, ((HB.out.cell (World.block_lt_of_cell? w _ hw344_0)).trans hw344_0), ((HB.out.cell (World.block_lt_of_cell? w _ hw344_1)).trans hw344_1), ((HB.out.cell (World.block_lt_of_cell? w _ hw344_2)).trans hw344_2)⟩ (fun hHeld => ?_)
            clear hK K
            refine norm_ (a' := ?_) ?_ ?_
            rotate_left
            ·show Act.put _ (some 37) _ = _
             simp only [Act.put, List.setIfInBounds_toArray, List.set_cons_zero, List.set_cons_succ, i64_w, i32_w]
             rfl
            refine pure_ (i := 6) (N := some 31) (v := ?_) (a' := ?_) #[true, true, true, true, true, true, true, false, false, true, false, false] rfl rfl (any_of HT_.out (by kernel_rfl)) (fun _ _ _ h => h) (Or.inl ⟨by rfl, ?_⟩) ?_ ?_
            rotate_left
            ·intro w'
             go_simp
             with_reducible rfl
            rotate_left
            ·simp only [Act.put, List.setIfInBounds_toArray, List.set_cons_zero, List.set_cons_succ, i64_w, i32_w]
             rfl
            refine pure_ (i := 7) (N := some 38) (v := ?_) (a' := ?_) #[true, true, true, true, true, true, true, true, false, true, false, false] rfl rfl (any_of HT_.out (by kernel_rfl)) (fun _ _ _ h => h) (Or.inl ⟨by rfl, ?_⟩) ?_ ?_
            rotate_left
            ·intro w'
             go_simp
             with_reducible rfl
            rotate_left
            ·simp only [Act.put, List.setIfInBounds_toArray, List.set_cons_zero, List.set_cons_succ, i64_w, i32_w]
             rfl
            refine pure_ (i := 8) (N := some 39) (v := ?_) (a' := ?_) #[true, true, true, true, true, true, true, true, true, true, false, false] rfl rfl (any_of HT_.out (by kernel_rfl)) (fun _ _ _ h => h) (Or.inl ⟨by rfl, ?_⟩) ?_ ?_
            rotate_left
            ·intro w'
             go_simp
             with_reducible rfl
            rotate_left
            ·simp only [Act.put, List.setIfInBounds_toArray, List.set_cons_zero, List.set_cons_succ, i64_w, i32_w]
             rfl
            exact norm_ (by simp only [putAll, Act.put, List.setIfInBounds_toArray, List.set_cons_zero, List.set_cons_succ]) (hCont (v347, gb350) _ ⟨hHeld, (by (with_reducible repeat (first | apply Kd.R_alloc | apply Kd.R_drewN | apply Kd.R_drew)); exact Kd.R_mono HO348.out (fun _ hk => by first | exact hk.1 | trivial)), (by (with_reducible repeat (first | apply Kd.V_alloc | apply Kd.V_drewN | apply Kd.V_drew)); exact Kd.V_mono HO_334001.out (fun _ hk => ⟨hk.1.1.1, ⟨hk.2, ⟨hk.1.1.2.1, ⟨hk.1.1.2.2, hk.1.2⟩⟩⟩⟩)), (by (with_reducible repeat (first | apply Kd.V_alloc | apply Kd.V_drewN | apply Kd.V_drew)); exact Kd.V_mono HO_341001.out (fun _ hk => ⟨hk.1.1.1, ⟨hk.2, ⟨hk.1.1.2.1, ⟨hk.1.1.2.2, hk.1.2⟩⟩⟩⟩)), (by (with_reducible repeat (first | refine blk_drewN ?_ _ | refine blk_drew ?_ | refine blk_alloc ?_ _)); exact BK333.out), (by (with_reducible repeat (first | refine blk_drewN ?_ _ | refine blk_drew ?_ | refine blk_alloc ?_ _)); exact BK340.out), (by (with_reducible repeat (first | refine blk_drewN ?_ _ | refine blk_drew ?_ | refine blk_alloc ?_ _)); exact BK350.out), GW350.out, GE350.out, NB333_350.out, NB350_333.out, NB340_350.out, NB350_340.out, (by repeat (first | (with_reducible first | exact HB.out | apply below_alloc | apply pw_below_drewN | apply below_drew1 | refine below_set ?_ GE333.out | refine below_set ?_ GE340.out | refine below_set ?_ GE350.out) | exact HB.out))⟩)
          rintro ⟨v347, gb350⟩ w38 ⟨hS_, h0_, h1_, h2_, h3_, h4_, h5_, h6_, h7_, h8_, h9_, h10_, h11_, h12_⟩
          have n0_ : Aside0 (Kd.R k59 59 w38 w.heap.size (fun k_ => (w.heap.size ≤ k_)) v347 t346) := ⟨h0_⟩
          have n1_ : Aside0 (Kd.V k59 59 w38 w.heap.size (fun k_ => (P0_1_ k_ ∨ w.heap.size ≤ k_) ∧ some k_ ≠ (v347 : Value).ownBlock ∧ k_ ≠ gb333 ∧ k_ ≠ gb340 ∧ k_ ≠ gb350) (.slice Ao34 x334001_1.length co34) x334001_1) := ⟨h1_⟩
          have n2_ : Aside0 (Kd.V k60 60 w38 w.heap.size (fun k_ => (P0_1_ k_ ∨ w.heap.size ≤ k_) ∧ some k_ ≠ (v347 : Value).ownBlock ∧ k_ ≠ gb333 ∧ k_ ≠ gb340 ∧ k_ ≠ gb350) u341001 x341001_1) := ⟨h2_⟩
          have n3_ : Aside0 (w38.heap[gb333]? = some (.cells #[.int .i64 x334000_1, .slice Ao34 x334001_1.length co34] 24 (0, 0))) := ⟨h3_⟩
          have n4_ : Aside0 (w38.heap[gb340]? = some (.cells #[.int .i64 x341000_1, u341001] 29 (0, 0))) := ⟨h4_⟩
          have n5_ : Aside0 (w38.heap[gb350]? = some (.cells #[.int .i64 0, .slice none 0 0] 24 (0, 0))) := ⟨h5_⟩
          have n6_ : Aside0 (w.heap.size ≤ gb350) := ⟨h6_⟩
          have n7_ : Aside0 (w.heap.size ≤ gb350) := ⟨h7_⟩
          have n8_ : Aside0 (gb333 ≠ gb350) := ⟨h8_⟩
          have n9_ : Aside0 (gb350 ≠ gb333) := ⟨h9_⟩
          have n10_ : Aside0 (gb340 ≠ gb350) := ⟨h10_⟩
          have n11_ : Aside0 (gb350 ≠ gb340) := ⟨h11_⟩
          have n12_ : Aside0 (Below w.heap.size w w38) := ⟨h12_⟩
          clear HO_334001
          clear HO_341001
          clear BK333
          clear BK340
          clear HB
          clear h0_ h1_ h2_ h3_ h4_ h5_ h6_ h7_ h8_ h9_ h10_ h11_ h12_
          have HO348 := n0_
          have HO_334001 := n1_
          have HO_341001 := n2_
          have BK333 := n3_
          have BK340 := n4_
          have BK350 := n5_
          have GW350 := n6_
          have GE350 := n7_
          have NB333_350 := n8_
          have NB350_333 := n9_
          have NB340_350 := n10_
          have NB350_340 := n11_
          have HB := n12_
          clear n0_ n1_ n2_ n3_ n4_ n5_ n6_ n7_ n8_ n9_ n10_ n11_ n12_
          have hHeld : w38.cell? ⟨gb333, 0, none⟩ = some (.int .i64 x334000_1) ∧ w38.cell? ⟨gb333, 1, none⟩ = some (.slice Ao34 x334001_1.length co34) ∧ w38.cell? (ad344.add ((x6_1).toNat * 3)) = some (.int .i64 ((rd_T46 l1 x6_1).f0)) ∧ w38.cell? ⟨(ad344.add ((x6_1).toNat * 3)).block, (ad344.add ((x6_1).toNat * 3)).off + 1, none⟩ = some (.int .i64 ((rd_T46 l1 x6_1).f1)) ∧ w38.cell? ⟨(ad344.add ((x6_1).toNat * 3)).block, (ad344.add ((x6_1).toNat * 3)).off + 2, none⟩ = some (.int .i64 ((rd_T46 l1 x6_1).f2)) := hS_
          obtain ⟨Ao40, co40, eo40⟩ := Kd.R_slice HO348.out
          (first | subst eo40 | (injection eo40 with f1_ f2_ f3_; have f4_ := f1_.symm; have f5_ := f3_.symm; clear f1_ f2_ f3_; subst f4_; subst f5_))
          refine norm_ (a' := ?_) ?_ ?_
          rotate_left
          ·simp only [putAll, Act.put, List.setIfInBounds_toArray, List.set_cons_zero, List.set_cons_succ]
           rfl
          refine one_ (i := 10) (N := none) #[true, true, true, true, true, true, true, true, true, true, true, false] rfl rfl (one_of HT_.out (by kernel_rfl)) (by decide) (fun K hK => ?_)
          have hs39 : w38.cell? ⟨gb350, 0, none⟩ = some (.int .i64 0) := (blk_cell BK350.out 0).trans rfl
          have hfs39 := blk_frozen BK350.out 0
          have hns39_0 := NB333_350.out
          have hns39_1 := NB340_350.out
          have hms39_0 := NB350_333.out
          have hms39_1 := NB350_340.out
          have hs41 : w38.cell? ⟨gb350, 1, none⟩ = some (.slice none 0 0) := (blk_cell BK350.out 1).trans rfl
          have hfs41 := blk_frozen BK350.out 1
          have hns41_0 := NB333_350.out
          have hns41_1 := NB340_350.out
          have hms41_0 := NB350_333.out
          have hms41_1 := NB350_340.out
          refine skip_ (w1 := ?_) (by rfl) rfl ?_ ?_
          rotate_left
          ·go_simp
           rfl
          refine hK.out _ _ ⟨((cell_far (p := ⟨gb350, _, none⟩) NB333_350.out _).trans (((cell_far (p := ⟨gb350, _, none⟩) NB333_350.out _).trans (hHeld.1)))), ((cell_far (p := ⟨gb350, _, none⟩) NB333_350.out _).trans (((cell_far (p := ⟨gb350, _, none⟩) NB333_350.out _).trans (hHeld.2.1)))), ((cell_far (p := ⟨gb350, _, none⟩) (by first | exact Nat.ne_of_lt (Nat.lt_of_lt_of_le (by have := World.block_lt_of_cell? _ _ hw344_0; first | rwa [add_block] at this | exact this) GW350.out) | (rw [add_block]; exact Nat.ne_of_lt (Nat.lt_of_lt_of_le (by have := World.block_lt_of_cell? _ _ hw344_0; first | rwa [add_block] at this | exact this) GW350.out)) | (show (Addr.add _ _).block ≠ _; rw [add_block]; exact Nat.ne_of_lt (Nat.lt_of_lt_of_le (by have := World.block_lt_of_cell? _ _ hw344_0; first | rwa [add_block] at this | exact this) GW350.out)) | (dsimp only; exact Nat.ne_of_lt (Nat.lt_of_lt_of_le (by have := World.block_lt_of_cell? _ _ hw344_0; first | rwa [add_block] at this | exact this) GW350.out))) _).trans (((cell_far (p := ⟨gb350, _, none⟩) (by first | exact Nat.ne_of_lt (Nat.lt_of_lt_of_le (by have := World.block_lt_of_cell? _ _ hw344_0; first | rwa [add_block] at this | exact this) GW350.out) | (rw [add_block]; exact Nat.ne_of_lt (Nat.lt_of_lt_of_le (by have := World.block_lt_of_cell? _ _ hw344_0; first | rwa [add_block] at this | exact this) GW350.out)) | (show (Addr.add _ _).block ≠ _; rw [add_block]; exact Nat.ne_of_lt (Nat.lt_of_lt_of_le (by have := World.block_lt_of_cell? _ _ hw344_0; first | rwa [add_block] at this | exact this) GW350.out)) | (dsimp only; exact Nat.ne_of_lt (Nat.lt_of_lt_of_le (by have := World.block_lt_of_cell? _ _ hw344_0; first | rwa [add_block] at this | exact this) GW350.out))) _).trans (hHeld.2.2.1)))), ((cell_far (p := ⟨gb350, _, none⟩) (by first | exact Nat.ne_of_lt (Nat.lt_of_lt_of_le (by have := World.block_lt_of_cell? _ _ hw344_1; first | rwa [add_block] at this | exact this) GW350.out) | (rw [add_block]; exact Nat.ne_of_lt (Nat.lt_of_lt_of_le (by have := World.block_lt_of_cell? _ _ hw344_1; first | rwa [add_block] at this | exact this) GW350.out)) | (show (Addr.add _ _).block ≠ _; rw [add_block]; exact Nat.ne_of_lt (Nat.lt_of_lt_of_le (by have := World.block_lt_of_cell? _ _ hw344_1; first | rwa [add_block] at this | exact this) GW350.out)) | (dsimp only; exact Nat.ne_of_lt (Nat.lt_of_lt_of_le (by have := World.block_lt_of_cell? _ _ hw344_1; first | rwa [add_block] at this | exact this) GW350.out))) _).trans (((cell_far (p := ⟨gb350, _, none⟩) (by first | exact Nat.ne_of_lt (Nat.lt_of_lt_of_le (by have := World.block_lt_of_cell? _ _ hw344_1; first | rwa [add_block] at this | exact this) GW350.out) | (rw [add_block]; exact Nat.ne_of_lt (Nat.lt_of_lt_of_le (by have := World.block_lt_of_cell? _ _ hw344_1; first | rwa [add_block] at this | exact this) GW350.out)) | (show (Addr.add _ _).block ≠ _; rw [add_block]; exact Nat.ne_of_lt (Nat.lt_of_lt_of_le (by have := World.block_lt_of_cell? _ _ hw344_1; first | rwa [add_block] at this | exact this) GW350.out)) | (dsimp only; exact Nat.ne_of_lt (Nat.lt_of_lt_of_le (by have := World.block_lt_of_cell? _ _ hw344_1; first | rwa [add_block] at this | exact this) GW350.out))) _).trans (hHeld.2.2.2.1)))), ((cell_far (p := ⟨gb350, _, none⟩) (by first | exact Nat.ne_of_lt (Nat.lt_of_lt_of_le (by have := World.block_lt_of_cell? _ _ hw344_2; first | rwa [add_block] at this | exact this) GW350.out) | (rw [add_block]; exact Nat.ne_of_lt (Nat.lt_of_lt_of_le (by have := World.block_lt_of_cell? _ _ hw344_2; first | rwa [add_block] at this | exact this) GW350.out)) | (show (Addr.add _ _).block ≠ _; rw [add_block]; exact Nat.ne_of_lt (Nat.lt_of_lt_of_le (by have := World.block_lt_of_cell? _ _ hw344_2; first | rwa [add_block] at this | exact this) GW350.out)) | (dsimp only; exact Nat.ne_of_lt (Nat.lt_of_lt_of_le (by have := World.block_lt_of_cell? _ _ hw344_2; first | rwa [add_block] at this | exact this) GW350.out))) _).trans (((cell_far (p := ⟨gb350, _, none⟩) (by first | exact Nat.ne_of_lt (Nat.lt_of_lt_of_le (by have := World.block_lt_of_cell? _ _ hw344_2; first | rwa [add_block] at this | exact this) GW350.out) | (rw [add_block]; exact Nat.ne_of_lt (Nat.lt_of_lt_of_le (by have := World.block_lt_of_cell? _ _ hw344_2; first | rwa [add_block] at this | exact this) GW350.out)) | (show (Addr.add _ _).block ≠ _; rw [add_block]; exact Nat.ne_of_lt (Nat.lt_of_lt_of_le (by have := World.block_lt_of_cell? _ _ hw344_2; first | rwa [add_block] at this | exact this) GW350.out)) | (dsimp only; exact Nat.ne_of_lt (Nat.lt_of_lt_of_le (by have := World.block_lt_of_cell? _ _ hw344_2; first | rwa [add_block] at this | exact this) GW350.out))) _).trans (hHeld.2.2.2.2))))⟩ (fun hHeld => ?_)
          clear hK K
          refine pure_ (i := 11) (N := some 8) (v := ?_) (a' := ?_) #[true, true, true, true, true, true, true, true, true, true, true, true] rfl rfl (any_of HT_.out (by kernel_rfl)) (fun _ _ _ h => h) (Or.inl ⟨by rfl, ?_⟩) ?_ ?_
          rotate_left
          ·intro w'
           go_simp
           with_reducible rfl
          rotate_left
          ·simp only [Act.put, List.setIfInBounds_toArray, List.set_cons_zero, List.set_cons_succ, i64_w, i32_w]
           rfl
          refine done_ (done_of HT_.out (by kernel_rfl)) ?_
          go_upto_if 45 with (first | ((with_reducible refine gate_dst (N := 9) rfl ?_); refine box_event ?hg (N := 9) ?hd (cs := #[.int .i64 0, .slice none 0 0]) (t := 29) ?hr ?_; (case hd => rfl); (case hg => rfl); (case hr => first | (go_simp; done) | (go_simp; rfl)); intro gb351 hg w42 hbox hb; have n0_ := Aside0.mk (Kd.V_below (Kd.V_elderB (by (with_reducible repeat (first | apply Kd.V_alloc | apply Kd.V_drewN | apply Kd.V_drew)); exact (Kd.V_mono (Kd.V_far (p := ⟨gb350, 1, none⟩) (Kd.V_far (p := ⟨gb350, 0, none⟩) (Kd.V_mono HO_334001.out (fun k_ hk => (⟨hk, hk.2.2.2.2⟩ : _ ∧ k_ ≠ gb350))) (fun _ hk => hk.2) (.int .i64 t345)) (fun _ hk => hk.2) (.slice Ao40 t346.length co40)) (fun _ h_ => h_.1))) gb351 (Nat.le_of_eq hg.symm)) hb); have n1_ := Aside0.mk (Kd.V_below (Kd.V_elderB (by (with_reducible repeat (first | apply Kd.V_alloc | apply Kd.V_drewN | apply Kd.V_drew)); exact (Kd.V_mono (Kd.V_far (p := ⟨gb350, 1, none⟩) (Kd.V_far (p := ⟨gb350, 0, none⟩) (Kd.V_mono HO_341001.out (fun k_ hk => (⟨hk, hk.2.2.2.2⟩ : _ ∧ k_ ≠ gb350))) (fun _ hk => hk.2) (.int .i64 t345)) (fun _ hk => hk.2) (.slice Ao40 t346.length co40)) (fun _ h_ => h_.1))) gb351 (Nat.le_of_eq hg.symm)) hb); have n2_ := Aside0.mk (Kd.R_below (by (with_reducible repeat (first | apply Kd.R_alloc | apply Kd.R_drewN | apply Kd.R_drew)); exact (Kd.R_mono (Kd.R_far (p := ⟨gb350, 1, none⟩) (Kd.R_far (p := ⟨gb350, 0, none⟩) (Kd.R_types HO348.out BK350.out (by decide)) (fun _ hk => hk.2) (.int .i64 t345)) (fun _ hk => hk.2) (.slice Ao40 t346.length co40)) (fun _ h_ => h_.1))) hb); have n3_ := Aside0.mk (blk_below (g := gb333) (o := .cells #[.int .i64 x334000_1, .slice Ao34 x334001_1.length co34] 24 (0, 0)) (by (with_reducible repeat (first | refine blk_drewN ?_ _ | refine blk_drew ?_ | refine blk_alloc ?_ _)); refine blk_far ?_ NB333_350.out _; (with_reducible repeat (first | refine blk_drewN ?_ _ | refine blk_drew ?_ | refine blk_alloc ?_ _)); refine blk_far ?_ NB333_350.out _; (with_reducible repeat (first | refine blk_drewN ?_ _ | refine blk_drew ?_ | refine blk_alloc ?_ _)); exact BK333.out) hb); have n4_ := Aside0.mk (blk_below (g := gb340) (o := .cells #[.int .i64 x341000_1, u341001] 29 (0, 0)) (by (with_reducible repeat (first | refine blk_drewN ?_ _ | refine blk_drew ?_ | refine blk_alloc ?_ _)); refine blk_far ?_ NB340_350.out _; (with_reducible repeat (first | refine blk_drewN ?_ _ | refine blk_drew ?_ | refine blk_alloc ?_ _)); refine blk_far ?_ NB340_350.out _; (with_reducible repeat (first | refine blk_drewN ?_ _ | refine blk_drew ?_ | refine blk_alloc ?_ _)); exact BK340.out) hb); have n5_ := Aside0.mk (blk_below (g := gb350) (o := .cells #[.int .i64 t345, .slice Ao40 t346.length co40] 24 (0, 0)) (by (with_reducible repeat (first | refine blk_drewN ?_ _ | refine blk_drew ?_ | refine blk_alloc ?_ _)); refine blk_put (cs := #[.int .i64 t345, .slice none 0 0]) ?_ 1 _ rfl; (with_reducible repeat (first | refine blk_drewN ?_ _ | refine blk_drew ?_ | refine blk_alloc ?_ _)); refine blk_put (cs := #[.int .i64 0, .slice none 0 0]) ?_ 0 _ rfl; (with_reducible repeat (first | refine blk_drewN ?_ _ | refine blk_drew ?_ | refine blk_alloc ?_ _)); exact BK350.out) hb); have n6_ := Aside0.mk (below_step (by repeat (first | (with_reducible first | exact HB.out | apply below_alloc | apply pw_below_drewN | apply below_drew1 | refine below_set ?_ GE333.out | refine below_set ?_ GE340.out | refine below_set ?_ GE350.out) | exact HB.out)) hb); have n7_ := Aside0.mk (hbox); have n8_ := Aside0.mk ((by rw [hg]; exact (below_size (by repeat (first | (with_reducible first | exact HB.out | apply below_alloc | apply pw_below_drewN | apply below_drew1 | refine below_set ?_ GE333.out | refine below_set ?_ GE340.out | refine below_set ?_ GE350.out) | exact HB.out))) : w.heap.size ≤ gb351)); have n9_ := Aside0.mk ((by rw [hg]; exact (below_size (by repeat (first | (with_reducible first | exact HB.out | apply below_alloc | apply pw_below_drewN | apply below_drew1 | refine below_set ?_ GE333.out | refine below_set ?_ GE340.out | refine below_set ?_ GE350.out) | exact HB.out))) : w.heap.size ≤ gb351)); have n10_ := Aside0.mk ((by rw [hg]; exact Nat.ne_of_lt (blk_lt (g := gb333) (o := .cells #[.int .i64 x334000_1, .slice Ao34 x334001_1.length co34] 24 (0, 0)) (by (with_reducible repeat (first | refine blk_drewN ?_ _ | refine blk_drew ?_ | refine blk_alloc ?_ _)); refine blk_far ?_ NB333_350.out _; (with_reducible repeat (first | refine blk_drewN ?_ _ | refine blk_drew ?_ | refine blk_alloc ?_ _)); refine blk_far ?_ NB333_350.out _; (with_reducible repeat (first | refine blk_drewN ?_ _ | refine blk_drew ?_ | refine blk_alloc ?_ _)); exact BK333.out)) : gb333 ≠ gb351)); have n11_ := Aside0.mk ((by rw [hg]; exact Nat.ne_of_gt (blk_lt (g := gb333) (o := .cells #[.int .i64 x334000_1, .slice Ao34 x334001_1.length co34] 24 (0, 0)) (by (with_reducible repeat (first | refine blk_drewN ?_ _ | refine blk_drew ?_ | refine blk_alloc ?_ _)); refine blk_far ?_ NB333_350.out _; (with_reducible repeat (first | refine blk_drewN ?_ _ | refine blk_drew ?_ | refine blk_alloc ?_ _)); refine blk_far ?_ NB333_350.out _; (with_reducible repeat (first | refine blk_drewN ?_ _ | refine blk_drew ?_ | refine blk_alloc ?_ _)); exact BK333.out)) : gb351 ≠ gb333)); have n12_ := Aside0.mk ((by rw [hg]; exact Nat.ne_of_lt (blk_lt (g := gb340) (o := .cells #[.int .i64 x341000_1, u341001] 29 (0, 0)) (by (with_reducible repeat (first | refine blk_drewN ?_ _ | refine blk_drew ?_ | refine blk_alloc ?_ _)); refine blk_far ?_ NB340_350.out _; (with_reducible repeat (first | refine blk_drewN ?_ _ | refine blk_drew ?_ | refine blk_alloc ?_ _)); refine blk_far ?_ NB340_350.out _; (with_reducible repeat (first | refine blk_drewN ?_ _ | refine blk_drew ?_ | refine blk_alloc ?_ _)); exact BK340.out)) : gb340 ≠ gb351)); have n13_ := Aside0.mk ((by rw [hg]; exact Nat.ne_of_gt (blk_lt (g := gb340) (o := .cells #[.int .i64 x341000_1, u341001] 29 (0, 0)) (by (with_reducible repeat (first | refine blk_drewN ?_ _ | refine blk_drew ?_ | refine blk_alloc ?_ _)); refine blk_far ?_ NB340_350.out _; (with_reducible repeat (first | refine blk_drewN ?_ _ | refine blk_drew ?_ | refine blk_alloc ?_ _)); refine blk_far ?_ NB340_350.out _; (with_reducible repeat (first | refine blk_drewN ?_ _ | refine blk_drew ?_ | refine blk_alloc ?_ _)); exact BK340.out)) : gb351 ≠ gb340)); have n14_ := Aside0.mk ((by rw [hg]; exact Nat.ne_of_lt (blk_lt (g := gb350) (o := .cells #[.int .i64 t345, .slice Ao40 t346.length co40] 24 (0, 0)) (by (with_reducible repeat (first | refine blk_drewN ?_ _ | refine blk_drew ?_ | refine blk_alloc ?_ _)); refine blk_put (cs := #[.int .i64 t345, .slice none 0 0]) ?_ 1 _ rfl; (with_reducible repeat (first | refine blk_drewN ?_ _ | refine blk_drew ?_ | refine blk_alloc ?_ _)); refine blk_put (cs := #[.int .i64 0, .slice none 0 0]) ?_ 0 _ rfl; (with_reducible repeat (first | refine blk_drewN ?_ _ | refine blk_drew ?_ | refine blk_alloc ?_ _)); exact BK350.out)) : gb350 ≠ gb351)); have n15_ := Aside0.mk ((by rw [hg]; exact Nat.ne_of_gt (blk_lt (g := gb350) (o := .cells #[.int .i64 t345, .slice Ao40 t346.length co40] 24 (0, 0)) (by (with_reducible repeat (first | refine blk_drewN ?_ _ | refine blk_drew ?_ | refine blk_alloc ?_ _)); refine blk_put (cs := #[.int .i64 t345, .slice none 0 0]) ?_ 1 _ rfl; (with_reducible repeat (first | refine blk_drewN ?_ _ | refine blk_drew ?_ | refine blk_alloc ?_ _)); refine blk_put (cs := #[.int .i64 0, .slice none 0 0]) ?_ 0 _ rfl; (with_reducible repeat (first | refine blk_drewN ?_ _ | refine blk_drew ?_ | refine blk_alloc ?_ _)); exact BK350.out)) : gb351 ≠ gb350)); clear HO_334001; clear HO_341001; clear HO348; clear BK333; clear BK340; clear BK350; clear HB; have HO_334001 := n0_; have HO_341001 := n1_; have HO348 := n2_; have BK333 := n3_; have BK340 := n4_; have BK350 := n5_; have HB := n6_; have BK351 := n7_; have GW351 := n8_; have GE351 := n9_; have NB333_351 := n10_; have NB351_333 := n11_; have NB340_351 := n12_; have NB351_340 := n13_; have NB350_351 := n14_; have NB351_350 := n15_; clear n0_ n1_ n2_ n3_ n4_ n5_ n6_ n7_ n8_ n9_ n10_ n11_ n12_ n13_ n14_ n15_; clear hb hbox hg; have p352 : 0 ≤ (x6_1 : Int) := of_decide_eq_true (by first | (with_reducible assumption) | assumption); have q352 : x6_1 < (l1.length : Int) := of_decide_eq_true (by first | (with_reducible assumption) | assumption); obtain ⟨ad352, e352, hx352_0, hx352_1, hx352_2⟩ := at_T46 HR1.out x6_1 p352 q352; obtain rfl : ad344 = ad352 := (by injection e352); replace hx352_0 := (HB.out.cell (World.block_lt_of_cell? w _ hx352_0)).trans hx352_0; replace hx352_1 := (HB.out.cell (World.block_lt_of_cell? w _ hx352_1)).trans hx352_1; replace hx352_2 := (HB.out.cell (World.block_lt_of_cell? w _ hx352_2)).trans hx352_2; replace p352 := eq_true p352; replace q352 := eq_true q352))
          (try simp only [Act.put, List.setIfInBounds_toArray, List.set_cons_zero, List.set_cons_succ])
          go_cut [10] (fun v10 wc => ∃ (kq : Nat) (x10_32 : Int) (x352000_32 : Int) (x352001_32 : List (S60)) (u352001 : Value), v10 = .int .i64 x10_32 ∧ Aside0 (haywainlaw11_ViewPlays.j2 kq l1 x6_1 t349 x10_32 t345 t346 x352000_32 x352001_32 = some r) ∧ Aside0 (kq ≤ kj26) ∧ Aside0 (Kd.V k59 59 wc w.heap.size (fun k_ => (P0_1_ k_ ∨ w.heap.size ≤ k_) ∧ some k_ ≠ ((.slice Ao40 t346.length co40) : Value).ownBlock ∧ k_ ≠ gb333 ∧ k_ ≠ gb340 ∧ k_ ≠ gb350 ∧ k_ ≠ gb351) (.slice Ao34 x334001_1.length co34) x334001_1) ∧ Aside0 (Kd.V k60 60 wc w.heap.size (fun k_ => (P0_1_ k_ ∨ w.heap.size ≤ k_) ∧ some k_ ≠ ((.slice Ao40 t346.length co40) : Value).ownBlock ∧ k_ ≠ gb333 ∧ k_ ≠ gb340 ∧ k_ ≠ gb350 ∧ k_ ≠ gb351) u341001 x341001_1) ∧ Aside0 (Kd.R k59 59 wc w.heap.size (fun k_ => (w.heap.size ≤ k_)) (.slice Ao40 t346.length co40) t346) ∧ Aside0 (Kd.V k60 60 wc w.heap.size (fun k_ => (P0_1_ k_ ∨ w.heap.size ≤ k_) ∧ some k_ ≠ ((.slice Ao40 t346.length co40) : Value).ownBlock ∧ k_ ≠ gb333 ∧ k_ ≠ gb340 ∧ k_ ≠ gb350 ∧ k_ ≠ gb351) u352001 x352001_32) ∧ Aside0 (wc.heap[gb333]? = some (.cells #[.int .i64 x334000_1, (.slice Ao34 x334001_1.length co34)] 24 (0, 0))) ∧ Aside0 (wc.heap[gb340]? = some (.cells #[.int .i64 x341000_1, u341001] 29 (0, 0))) ∧ Aside0 (wc.heap[gb350]? = some (.cells #[.int .i64 t345, (.slice Ao40 t346.length co40)] 24 (0, 0))) ∧ Aside0 (wc.heap[gb351]? = some (.cells #[.int .i64 x352000_32, u352001] 29 (0, 0))) ∧ Aside0 (Below w.heap.size w wc))
          case first =>
           have H := HC33.out
           clear HC33
           by_cases c43 : ((rd_T46 l1 x6_1).f0) = 0
           ·rw [if_pos c43] at H
            have c43b0 : (((rd_T46 l1 x6_1).f0) == 0) = true := beq_iff_eq.mpr c43
            have c43b1 : (((rd_T46 l1 x6_1).f0) != 0) = false := bne_eq_false_iff_eq.mpr c43
            clear c43
            (first | rw [c43b0] | (simp only [i64_w, i32_w]; rw [c43b0]) | skip)
            replace H := Option.bind_eq_some_iff.mp H
            obtain ⟨⟨t355, t356, t359⟩, A440, H⟩ := H
            replace H : (haywainlaw11_ViewPlays.j2 kj26 l1 x6_1 t349 t359 t345 t346 t355 t356) = some r := H
            have A44 := Aside0.mk A440
            clear A440
            have H' := Aside0.mk H
            clear H
            try go_wp2
            have n0_ := Aside0.mk (Kd.V_drew HO_334001.out)
            have n1_ := Aside0.mk (Kd.V_drew HO_341001.out)
            have n2_ := Aside0.mk (Kd.R_drew HO348.out)
            have n3_ := Aside0.mk (blk_drew BK333.out)
            have n4_ := Aside0.mk (blk_drew BK340.out)
            have n5_ := Aside0.mk (blk_drew BK350.out)
            have n6_ := Aside0.mk (blk_drew BK351.out)
            have n7_ := Aside0.mk (below_drew1 HB.out)
            clear HO_334001
            clear HO_341001
            clear HO348
            clear BK333
            clear BK340
            clear BK350
            clear BK351
            clear HB
            have HO_334001 := n0_
            have HO_341001 := n1_
            have HO348 := n2_
            have BK333 := n3_
            have BK340 := n4_
            have BK350 := n5_
            have BK351 := n6_
            have HB := n7_
            clear n0_ n1_ n2_ n3_ n4_ n5_ n6_ n7_
            have p353 : 0 ≤ (x6_1 : Int) := of_decide_eq_true (by first | (with_reducible assumption) | assumption)
            have q353 : x6_1 < (l1.length : Int) := of_decide_eq_true (by first | (with_reducible assumption) | assumption)
            obtain ⟨ad353, e353, hx353_0, hx353_1, hx353_2⟩ := at_T46 HR1.out x6_1 p353 q353
            have hw353_2 := hx353_2
            have hw353_1 := hx353_1
            have hw353_0 := hx353_0
            obtain rfl : ad344 = ad353 := (by injection e353)
            replace hx353_0 := (HB.out.cell (World.block_lt_of_cell? w _ hx353_0)).trans hx353_0
            replace hx353_1 := (HB.out.cell (World.block_lt_of_cell? w _ hx353_1)).trans hx353_1
            replace hx353_2 := (HB.out.cell (World.block_lt_of_cell? w _ hx353_2)).trans hx353_2
            replace p353 := eq_true p353
            replace q353 := eq_true q353
            have p354 : 0 ≤ (x6_1 : Int) := of_decide_eq_true (by first | (with_reducible assumption) | assumption)
            have q354 : x6_1 < (l1.length : Int) := of_decide_eq_true (by first | (with_reducible assumption) | assumption)
            obtain ⟨ad354, e354, hx354_0, hx354_1, hx354_2⟩ := at_T46 HR1.out x6_1 p354 q354
            have hw354_2 := hx354_2
            have hw354_1 := hx354_1
            have hw354_0 := hx354_0
            obtain rfl : ad344 = ad354 := (by injection e354)
            replace hx354_0 := (HB.out.cell (World.block_lt_of_cell? w _ hx354_0)).trans hx354_0
            replace hx354_1 := (HB.out.cell (World.block_lt_of_cell? w _ hx354_1)).trans hx354_1
            replace hx354_2 := (HB.out.cell (World.block_lt_of_cell? w _ hx354_2)).trans hx354_2
            replace p354 := eq_true p354
            replace q354 := eq_true q354
            obtain ⟨Ao46, co46, eo46⟩ := Kd.V_slice HO_341001.out
            (first | subst eo46 | (injection eo46 with f1_ f2_ f3_; have f4_ := f1_.symm; have f5_ := f3_.symm; clear f1_ f2_ f3_; subst f4_; subst f5_))
            refine start_ (n := 17) (S := fun w' => w'.cell? ⟨gb340, 0, none⟩ = some (.int .i64 x341000_1) ∧ w'.cell? ⟨gb340, 1, none⟩ = some (.slice Ao46 x341001_1.length co46) ∧ w'.cell? (ad344.add ((x6_1).toNat * 3)) = some (.int .i64 ((rd_T46 l1 x6_1).f0)) ∧ w'.cell? ⟨(ad344.add ((x6_1).toNat * 3)).block, (ad344.add ((x6_1).toNat * 3)).off + 1, none⟩ = some (.int .i64 ((rd_T46 l1 x6_1).f1)) ∧ w'.cell? ⟨(ad344.add ((x6_1).toNat * 3)).block, (ad344.add ((x6_1).toNat * 3)).off + 2, none⟩ = some (.int .i64 ((rd_T46 l1 x6_1).f2)) ∧ w'.cell? (ad344.add ((x6_1).toNat * 3)) = some (.int .i64 ((rd_T46 l1 x6_1).f0)) ∧ w'.cell? ⟨(ad344.add ((x6_1).toNat * 3)).block, (ad344.add ((x6_1).toNat * 3)).off + 1, none⟩ = some (.int .i64 ((rd_T46 l1 x6_1).f1)) ∧ w'.cell? ⟨(ad344.add ((x6_1).toNat * 3)).block, (ad344.add ((x6_1).toNat * 3)).off + 2, none⟩ = some (.int .i64 ((rd_T46 l1 x6_1).f2))) (ds := []) #[false, false, false, false, false, false, false, false, false, false, false, false, false, false, false, false, false] (by kernel_rfl) rfl rfl ⟨(blk_cell BK340.out 0).trans rfl, (blk_cell BK340.out 1).trans rfl, ((HB.out.cell (World.block_lt_of_cell? w _ hw353_0)).trans hw353_0), ((HB.out.cell (World.block_lt_of_cell? w _ hw353_1)).trans hw353_1), ((HB.out.cell (World.block_lt_of_cell? w _ hw353_2)).trans hw353_2), ((HB.out.cell (World.block_lt_of_cell? w _ hw354_0)).trans hw354_0), ((HB.out.cell (World.block_lt_of_cell? w _ hw354_1)).trans hw354_1), ((HB.out.cell (World.block_lt_of_cell? w _ hw354_2)).trans hw354_2)⟩ (fun hHeld => ?_); refine with_tabW haywainlaw11_ViewPlays.tab13 haywainlaw11_ViewPlays.bits13 (fun HT_ HW_ => ?_)
            generalize w42.drew = w45 at HO_334001 HO_341001 HO348 BK333 BK340 BK350 BK351 HB hx353_0 hx353_1 hx353_2 hx354_0 hx354_1 hx354_2 hHeld ⊢
            refine pure_ (i := 1) (N := some 48) (v := ?_) (a' := ?_) #[false, true, false, false, false, false, false, false, false, false, false, false, false, false, false, false, false] rfl rfl (any_of HT_.out (by kernel_rfl)) (fun _ _ _ h => h) (Or.inl ⟨by rfl, ?_⟩) ?_ ?_
            rotate_left
            ·intro w'
             go_simp
             with_reducible rfl
            rotate_left
            ·simp only [Act.put, List.setIfInBounds_toArray, List.set_cons_zero, List.set_cons_succ, i64_w, i32_w]
             rfl
            refine pure_ (i := 2) (N := some 49) (v := ?_) (a' := ?_) #[false, true, true, false, false, false, false, false, false, false, false, false, false, false, false, false, false] rfl rfl (any_of HT_.out (by kernel_rfl)) (fun _ _ _ h => h) (Or.inl ⟨by rfl, ?_⟩) ?_ ?_
            rotate_left
            ·intro w'
             go_simp
             with_reducible rfl
            rotate_left
            ·simp only [Act.put, List.setIfInBounds_toArray, List.set_cons_zero, List.set_cons_succ, i64_w, i32_w]
             rfl
            refine pure_ (i := 3) (N := some 50) (v := ?_) (a' := ?_) #[false, true, true, true, false, false, false, false, false, false, false, false, false, false, false, false, false] rfl rfl (any_of HT_.out (by kernel_rfl)) (fun _ _ _ h => h) (Or.inl ⟨by rfl, ?_⟩) ?_ ?_
            rotate_left
            ·intro w'
             go_simp
             with_reducible rfl
            rotate_left
            ·simp only [Act.put, List.setIfInBounds_toArray, List.set_cons_zero, List.set_cons_succ, i64_w, i32_w]
             rfl
            refine pure_ (i := 4) (N := some 51) (v := ?_) (a' := ?_) #[false, true, true, true, true, false, false, false, false, false, false, false, false, false, false, false, false] rfl rfl (any_of HT_.out (by kernel_rfl)) (fun _ _ _ h => h) (Or.inl ⟨by rfl, ?_⟩) ?_ ?_
            rotate_left
            ·intro w'
             go_simp
             with_reducible rfl
            rotate_left
            ·simp only [Act.put, List.setIfInBounds_toArray, List.set_cons_zero, List.set_cons_succ, i64_w, i32_w]
             rfl
            refine pure_ (i := 6) (N := some 53) (v := ?_) (a' := ?_) #[false, true, true, true, true, false, true, false, false, false, false, false, false, false, false, false, false] rfl rfl (any_of HT_.out (by kernel_rfl)) (fun _ _ _ h => h) (Or.inl ⟨by rfl, ?_⟩) ?_ ?_
            rotate_left
            ·intro w'
             go_simp
             with_reducible rfl
            rotate_left
            ·simp only [Act.put, List.setIfInBounds_toArray, List.set_cons_zero, List.set_cons_succ, i64_w, i32_w]
             rfl
            refine pure_ (i := 7) (N := some 54) (v := ?_) (a' := ?_) #[false, true, true, true, true, false, true, true, false, false, false, false, false, false, false, false, false] rfl rfl (any_of HT_.out (by kernel_rfl)) (fun _ _ _ h => h) (Or.inl ⟨by rfl, ?_⟩) ?_ ?_
            rotate_left
            ·intro w'
             go_simp
             with_reducible rfl
            rotate_left
            ·simp only [Act.put, List.setIfInBounds_toArray, List.set_cons_zero, List.set_cons_succ, i64_w, i32_w]
             rfl
            refine pure_ (i := 8) (N := some 55) (v := ?_) (a' := ?_) #[false, true, true, true, true, false, true, true, true, false, false, false, false, false, false, false, false] rfl rfl (any_of HT_.out (by kernel_rfl)) (fun _ _ _ h => h) (Or.inl ⟨by rfl, ?_⟩) ?_ ?_
            rotate_left
            ·intro w'
             go_simp
             with_reducible rfl
            rotate_left
            ·simp only [Act.put, List.setIfInBounds_toArray, List.set_cons_zero, List.set_cons_succ, i64_w, i32_w]
             rfl
            refine pure_ (i := 9) (N := some 56) (v := ?_) (a' := ?_) #[false, true, true, true, true, false, true, true, true, true, false, false, false, false, false, false, false] rfl rfl (any_of HT_.out (by kernel_rfl)) (fun _ _ _ h => h) (Or.inl ⟨by rfl, ?_⟩) ?_ ?_
            rotate_left
            ·intro w'
             go_simp
             with_reducible rfl
            rotate_left
            ·simp only [Act.put, List.setIfInBounds_toArray, List.set_cons_zero, List.set_cons_succ, i64_w, i32_w]
             rfl
            refine take_ (i := 0) (N := some 47) (v := ?_) (a' := ?_) #[true, true, true, true, true, false, true, true, true, true, false, false, false, false, false, false, false] rfl rfl (take_ofW HT_.out HW_.out (by kernel_rfl)) (fun _ _ _ h => h) (Or.inl ⟨by rfl, ?_⟩) hHeld ?_ ?_
            rotate_left
            ·rintro w' ⟨s0, s1, s2, s3, s4, s5, s6, s7⟩
             go_simp
             with_reducible rfl
            rotate_left
            ·simp only [Act.put, List.setIfInBounds_toArray, List.set_cons_zero, List.set_cons_succ, i64_w, i32_w]
             rfl
            refine take_ (i := 5) (N := some 52) (v := ?_) (a' := ?_) #[true, true, true, true, true, true, true, true, true, true, false, false, false, false, false, false, false] rfl rfl (take_ofW HT_.out HW_.out (by kernel_rfl)) (fun _ _ _ h => h) (Or.inl ⟨by rfl, ?_⟩) hHeld ?_ ?_
            rotate_left
            ·rintro w' ⟨s0, s1, s2, s3, s4, s5, s6, s7⟩
             go_simp
             with_reducible rfl
            rotate_left
            ·simp only [Act.put, List.setIfInBounds_toArray, List.set_cons_zero, List.set_cons_succ, i64_w, i32_w]
             rfl
            refine take_ (i := 10) (N := some 57) (v := ?_) (a' := ?_) #[true, true, true, true, true, true, true, true, true, true, true, false, false, false, false, false, false] rfl rfl (take_ofW HT_.out HW_.out (by kernel_rfl)) (fun _ _ _ h => h) (Or.inl ⟨by rfl, ?_⟩) hHeld ?_ ?_
            rotate_left
            ·rintro w' ⟨s0, s1, s2, s3, s4, s5, s6, s7⟩
             go_simp
             with_reducible rfl
            rotate_left
            ·simp only [Act.put, List.setIfInBounds_toArray, List.set_cons_zero, List.set_cons_succ, i64_w, i32_w]
             rfl
            refine one_ (i := 11) (N := some 58) #[true, true, true, true, true, true, true, true, true, true, true, true, false, false, false, false, false] rfl rfl (one_of HT_.out (by kernel_rfl)) (by decide) (fun K hK => ?_)
            refine goes_ Try.func22 (by kernel_rfl) rfl #[.agg #[.int .i64 x341000_1, .slice Ao46 x341001_1.length co46], .int .i64 ((rd_T46 l1 x6_1).f1), .int .i64 ((rd_T46 l1 x6_1).f2)] (by rfl) rfl rfl (by (try simp only [List.map_toArray, List.map_cons, List.map_nil]); first | done | rfl | (simp only [List.length_drop, List.length_take]; rfl)) ?_
            with_reducible refine (haywainref11_Join.calls kj26 x341000_1 (fun k_ => (((P0_1_ k_ ∨ w.heap.size ≤ k_) ∧ (some k_ ≠ (.slice Ao40 t346.length co40 : Value).ownBlock ∧ (k_ ≠ gb333 ∧ (k_ ≠ gb340 ∧ k_ ≠ gb350)))) ∧ k_ ≠ gb351)) _ _ x341001_1 ((rd_T46 l1 x6_1).f1) ((rd_T46 l1 x6_1).f2) t355 t356 t359 _ ?side1 A44.out).mono ?_
            (case side1 => exact HO_341001.out)
            rintro e w47 ⟨v357, rfl, ho0, hb⟩
            refine ⟨_, rfl, ?_⟩
            have n0_ := Aside0.mk (Kd.V_below (by (with_reducible repeat (first | apply Kd.V_alloc | apply Kd.V_drewN | apply Kd.V_drew)); exact HO_334001.out) hb)
            have n1_ := Aside0.mk (Kd.V_below (by (with_reducible repeat (first | apply Kd.V_alloc | apply Kd.V_drewN | apply Kd.V_drew)); exact HO_341001.out) hb)
            have n2_ := Aside0.mk (Kd.R_below (by (with_reducible repeat (first | apply Kd.R_alloc | apply Kd.R_drewN | apply Kd.R_drew)); exact HO348.out) hb)
            have n3_ := Aside0.mk (Kd.V_lower (Kd.V_mono (ok' := fun k_ => (P0_1_ k_ ∨ w.heap.size ≤ k_) ∧ some k_ ≠ (.slice Ao40 t346.length co40 : Value).ownBlock ∧ k_ ≠ gb333 ∧ k_ ≠ gb340 ∧ k_ ≠ gb350 ∧ k_ ≠ gb351) ho0 (fun k_ hk_ => ⟨Or.elim hk_ (fun hs_ => hs_.1.1) (fun hn_ => (.inr (Nat.le_trans (below_size (by repeat (first | (with_reducible first | exact HB.out | apply below_alloc | apply pw_below_drewN | apply below_drew1 | refine below_set ?_ GE333.out | refine below_set ?_ GE340.out | refine below_set ?_ GE350.out | refine below_set ?_ GE351.out) | exact HB.out))) hn_))), Or.elim hk_ (fun hs_ => hs_.1.2.1) (fun hn_ => (Kd.fresh' (Kd.R_lt (by (with_reducible repeat (first | apply Kd.R_alloc | apply Kd.R_drewN | apply Kd.R_drew)); exact HO348.out)) k_ hn_)), Or.elim hk_ (fun hs_ => hs_.1.2.2.1) (fun hn_ => (Kd.freshB (g := gb333) (o := .cells #[.int .i64 x334000_1, .slice Ao34 x334001_1.length co34] 24 (0, 0)) (by (with_reducible repeat (first | refine blk_drewN ?_ _ | refine blk_drew ?_ | refine blk_alloc ?_ _)); exact BK333.out) k_ hn_)), Or.elim hk_ (fun hs_ => hs_.1.2.2.2.1) (fun hn_ => (Kd.freshB (g := gb340) (o := .cells #[.int .i64 x341000_1, .slice Ao46 x341001_1.length co46] 29 (0, 0)) (by (with_reducible repeat (first | refine blk_drewN ?_ _ | refine blk_drew ?_ | refine blk_alloc ?_ _)); exact BK340.out) k_ hn_)), Or.elim hk_ (fun hs_ => hs_.1.2.2.2.2) (fun hn_ => (Kd.freshB (g := gb350) (o := .cells #[.int .i64 t345, .slice Ao40 t346.length co40] 24 (0, 0)) (by (with_reducible repeat (first | refine blk_drewN ?_ _ | refine blk_drew ?_ | refine blk_alloc ?_ _)); exact BK350.out) k_ hn_)), Or.elim hk_ (fun hs_ => hs_.2) (fun hn_ => (Kd.freshB (g := gb351) (o := .cells #[.int .i64 0, .slice none 0 0] 29 (0, 0)) (by (with_reducible repeat (first | refine blk_drewN ?_ _ | refine blk_drew ?_ | refine blk_alloc ?_ _)); exact BK351.out) k_ hn_))⟩)) (below_size (by repeat (first | (with_reducible first | exact HB.out | apply below_alloc | apply pw_below_drewN | apply below_drew1 | refine below_set ?_ GE333.out | refine below_set ?_ GE340.out | refine below_set ?_ GE350.out | refine below_set ?_ GE351.out) | exact HB.out))))
            have n4_ := Aside0.mk (blk_below (g := gb333) (o := .cells #[.int .i64 x334000_1, .slice Ao34 x334001_1.length co34] 24 (0, 0)) (by (with_reducible repeat (first | refine blk_drewN ?_ _ | refine blk_drew ?_ | refine blk_alloc ?_ _)); exact BK333.out) hb)
            have n5_ := Aside0.mk (blk_below (g := gb340) (o := .cells #[.int .i64 x341000_1, .slice Ao46 x341001_1.length co46] 29 (0, 0)) (by (with_reducible repeat (first | refine blk_drewN ?_ _ | refine blk_drew ?_ | refine blk_alloc ?_ _)); exact BK340.out) hb)
            have n6_ := Aside0.mk (blk_below (g := gb350) (o := .cells #[.int .i64 t345, .slice Ao40 t346.length co40] 24 (0, 0)) (by (with_reducible repeat (first | refine blk_drewN ?_ _ | refine blk_drew ?_ | refine blk_alloc ?_ _)); exact BK350.out) hb)
            have n7_ := Aside0.mk (blk_below (g := gb351) (o := .cells #[.int .i64 0, .slice none 0 0] 29 (0, 0)) (by (with_reducible repeat (first | refine blk_drewN ?_ _ | refine blk_drew ?_ | refine blk_alloc ?_ _)); exact BK351.out) hb)
            have n8_ := Aside0.mk (below_step (by repeat (first | (with_reducible first | exact HB.out | apply below_alloc | apply pw_below_drewN | apply below_drew1 | refine below_set ?_ GE333.out | refine below_set ?_ GE340.out | refine below_set ?_ GE350.out | refine below_set ?_ GE351.out) | exact HB.out)) hb)
            clear HO_334001
            clear HO_341001
            clear HO348
            clear BK333
            clear BK340
            clear BK350
            clear BK351
            clear HB
            have HO_334001 := n0_
            have HO_341001 := n1_
            have HO348 := n2_
            have HO358 := n3_
            have BK333 := n4_
            have BK340 := n5_
            have BK350 := n6_
            have BK351 := n7_
            have HB := n8_
            clear n0_ n1_ n2_ n3_ n4_ n5_ n6_ n7_ n8_
            (try clear hb)
            (try clear hb2)
            (try clear hk)
            (try clear hi)
            (try clear ho0)
            obtain ⟨Ao49, co49, eo49⟩ := Kd.V_slice HO358.out
            (first | subst eo49 | (injection eo49 with f1_ f2_ f3_; have f4_ := f1_.symm; have f5_ := f3_.symm; clear f1_ f2_ f3_; subst f4_; subst f5_))
            refine hK.out _ _ ⟨(blk_cell BK340.out 0).trans rfl, (blk_cell BK340.out 1).trans rfl, ((HB.out.cell (World.block_lt_of_cell? w _ hw353_0)).trans hw353_0), ((HB.out.cell (World.block_lt_of_cell? w _ hw353_1)).trans hw353_1), ((HB.out.cell (World.block_lt_of_cell? w _ hw353_2)).trans hw353_2), ((HB.out.cell (World.block_lt_of_cell? w _ hw354_0)).trans hw354_0), ((HB.out.cell (World.block_lt_of_cell? w _ hw354_1)).trans hw354_1), ((HB.out.cell (World.block_lt_of_cell? w _ hw354_2)).trans hw354_2)⟩ (fun hHeld => ?_)
            clear hK K
            refine norm_ (a' := ?_) ?_ ?_
            rotate_left
            ·show Act.put _ (some 58) _ = _
             simp only [Act.put, List.setIfInBounds_toArray, List.set_cons_zero, List.set_cons_succ, i64_w, i32_w]
             rfl
            refine pure_ (i := 12) (N := some 46) (v := ?_) (a' := ?_) #[true, true, true, true, true, true, true, true, true, true, true, true, true, false, false, false, false] rfl rfl (any_of HT_.out (by kernel_rfl)) (fun _ _ _ h => h) (Or.inl ⟨by rfl, ?_⟩) ?_ ?_
            rotate_left
            ·intro w'
             go_simp
             with_reducible rfl
            rotate_left
            ·simp only [Act.put, List.setIfInBounds_toArray, List.set_cons_zero, List.set_cons_succ, i64_w, i32_w]
             rfl
            refine pure_ (i := 13) (N := some 59) (v := ?_) (a' := ?_) #[true, true, true, true, true, true, true, true, true, true, true, true, true, true, false, false, false] rfl rfl (any_of HT_.out (by kernel_rfl)) (fun _ _ _ h => h) (Or.inl ⟨by rfl, ?_⟩) ?_ ?_
            rotate_left
            ·intro w'
             go_simp
             with_reducible rfl
            rotate_left
            ·simp only [Act.put, List.setIfInBounds_toArray, List.set_cons_zero, List.set_cons_succ, i64_w, i32_w]
             rfl
            refine pure_ (i := 14) (N := some 60) (v := ?_) (a' := ?_) #[true, true, true, true, true, true, true, true, true, true, true, true, true, true, true, false, false] rfl rfl (any_of HT_.out (by kernel_rfl)) (fun _ _ _ h => h) (Or.inl ⟨by rfl, ?_⟩) ?_ ?_
            rotate_left
            ·intro w'
             go_simp
             with_reducible rfl
            rotate_left
            ·simp only [Act.put, List.setIfInBounds_toArray, List.set_cons_zero, List.set_cons_succ, i64_w, i32_w]
             rfl
            refine one_ (i := 15) (N := none) #[true, true, true, true, true, true, true, true, true, true, true, true, true, true, true, true, false] rfl rfl (one_of HT_.out (by kernel_rfl)) (by decide) (fun K hK => ?_)
            have hs48 : w47.cell? ⟨gb351, 0, none⟩ = some (.int .i64 0) := (blk_cell BK351.out 0).trans rfl
            have hfs48 := blk_frozen BK351.out 0
            have hns48_0 := NB333_351.out
            have hns48_1 := NB340_351.out
            have hns48_2 := NB350_351.out
            have hms48_0 := NB351_333.out
            have hms48_1 := NB351_340.out
            have hms48_2 := NB351_350.out
            have hs50 : w47.cell? ⟨gb351, 1, none⟩ = some (.slice none 0 0) := (blk_cell BK351.out 1).trans rfl
            have hfs50 := blk_frozen BK351.out 1
            have hns50_0 := NB333_351.out
            have hns50_1 := NB340_351.out
            have hns50_2 := NB350_351.out
            have hms50_0 := NB351_333.out
            have hms50_1 := NB351_340.out
            have hms50_2 := NB351_350.out
            refine skip_ (w1 := ?_) (by rfl) rfl ?_ ?_
            rotate_left
            ·go_simp
             rfl
            refine hK.out _ _ ⟨((cell_far (p := ⟨gb351, _, none⟩) NB340_351.out _).trans (((cell_far (p := ⟨gb351, _, none⟩) NB340_351.out _).trans (hHeld.1)))), ((cell_far (p := ⟨gb351, _, none⟩) NB340_351.out _).trans (((cell_far (p := ⟨gb351, _, none⟩) NB340_351.out _).trans (hHeld.2.1)))), ((cell_far (p := ⟨gb351, _, none⟩) (by first | exact Nat.ne_of_lt (Nat.lt_of_lt_of_le (by have := World.block_lt_of_cell? _ _ hw353_0; first | rwa [add_block] at this | exact this) GW351.out) | (rw [add_block]; exact Nat.ne_of_lt (Nat.lt_of_lt_of_le (by have := World.block_lt_of_cell? _ _ hw353_0; first | rwa [add_block] at this | exact this) GW351.out)) | (show (Addr.add _ _).block ≠ _; rw [add_block]; exact Nat.ne_of_lt (Nat.lt_of_lt_of_le (by have := World.block_lt_of_cell? _ _ hw353_0; first | rwa [add_block] at this | exact this) GW351.out)) | (dsimp only; exact Nat.ne_of_lt (Nat.lt_of_lt_of_le (by have := World.block_lt_of_cell? _ _ hw353_0; first | rwa [add_block] at this | exact this) GW351.out))) _).trans (((cell_far (p := ⟨gb351, _, none⟩) (by first | exact Nat.ne_of_lt (Nat.lt_of_lt_of_le (by have := World.block_lt_of_cell? _ _ hw353_0; first | rwa [add_block] at this | exact this) GW351.out) | (rw [add_block]; exact Nat.ne_of_lt (Nat.lt_of_lt_of_le (by have := World.block_lt_of_cell? _ _ hw353_0; first | rwa [add_block] at this | exact this) GW351.out)) | (show (Addr.add _ _).block ≠ _; rw [add_block]; exact Nat.ne_of_lt (Nat.lt_of_lt_of_le (by have := World.block_lt_of_cell? _ _ hw353_0; first | rwa [add_block] at this | exact this) GW351.out)) | (dsimp only; exact Nat.ne_of_lt (Nat.lt_of_lt_of_le (by have := World.block_lt_of_cell? _ _ hw353_0; first | rwa [add_block] at this | exact this) GW351.out))) _).trans (hHeld.2.2.1)))), ((cell_far (p := ⟨gb351, _, none⟩) (by first | exact Nat.ne_of_lt (Nat.lt_of_lt_of_le (by have := World.block_lt_of_cell? _ _ hw353_1; first | rwa [add_block] at this | exact this) GW351.out) | (rw [add_block]; exact Nat.ne_of_lt (Nat.lt_of_lt_of_le (by have := World.block_lt_of_cell? _ _ hw353_1; first | rwa [add_block] at this | exact this) GW351.out)) | (show (Addr.add _ _).block ≠ _; rw [add_block]; exact Nat.ne_of_lt (Nat.lt_of_lt_of_le (by have := World.block_lt_of_cell? _ _ hw353_1; first | rwa [add_block] at this | exact this) GW351.out)) | (dsimp only; exact Nat.ne_of_lt (Nat.lt_of_lt_of_le (by have := World.block_lt_of_cell? _ _ hw353_1; first | rwa [add_block] at this | exact this) GW351.out))) _).trans (((cell_far (p := ⟨gb351, _, none⟩) (by first | exact Nat.ne_of_lt (Nat.lt_of_lt_of_le (by have := World.block_lt_of_cell? _ _ hw353_1; first | rwa [add_block] at this | exact this) GW351.out) | (rw [add_block]; exact Nat.ne_of_lt (Nat.lt_of_lt_of_le (by have := World.block_lt_of_cell? _ _ hw353_1; first | rwa [add_block] at this | exact this) GW351.out)) | (show (Addr.add _ _).block ≠ _; rw [add_block]; exact Nat.ne_of_lt (Nat.lt_of_lt_of_le (by have := World.block_lt_of_cell? _ _ hw353_1; first | rwa [add_block] at this | exact this) GW351.out)) | (dsimp only; exact Nat.ne_of_lt (Nat.lt_of_lt_of_le (by have := World.block_lt_of_cell? _ _ hw353_1; first | rwa [add_block] at this | exact this) GW351.out))) _).trans (hHeld.2.2.2.1)))), ((cell_far (p := ⟨gb351, _, none⟩) (by first | exact Nat.ne_of_lt (Nat.lt_of_lt_of_le (by have := World.block_lt_of_cell? _ _ hw353_2; first | rwa [add_block] at this | exact this) GW351.out) | (rw [add_block]; exact Nat.ne_of_lt (Nat.lt_of_lt_of_le (by have := World.block_lt_of_cell? _ _ hw353_2; first | rwa [add_block] at this | exact this) GW351.out)) | (show (Addr.add _ _).block ≠ _; rw [add_block]; exact Nat.ne_of_lt (Nat.lt_of_lt_of_le (by have := World.block_lt_of_cell? _ _ hw353_2; first | rwa [add_block] at this | exact this) GW351.out)) | (dsimp only; exact Nat.ne_of_lt (Nat.lt_of_lt_of_le (by have := World.block_lt_of_cell? _ _ hw353_2; first | rwa [add_block] at this | exact this) GW351.out))) _).trans (((cell_far (p := ⟨gb351, _, none⟩) (by first | exact Nat.ne_of_lt (Nat.lt_of_lt_of_le (by have := World.block_lt_of_cell? _ _ hw353_2; first | rwa [add_block] at this | exact this) GW351.out) | (rw [add_block]; exact Nat.ne_of_lt (Nat.lt_of_lt_of_le (by have := World.block_lt_of_cell? _ _ hw353_2; first | rwa [add_block] at this | exact this) GW351.out)) | (show (Addr.add _ _).block ≠ _; rw [add_block]; exact Nat.ne_of_lt (Nat.lt_of_lt_of_le (by have := World.block_lt_of_cell? _ _ hw353_2; first | rwa [add_block] at this | exact this) GW351.out)) | (dsimp only; exact Nat.ne_of_lt (Nat.lt_of_lt_of_le (by have := World.block_lt_of_cell? _ _ hw353_2; first | rwa [add_block] at this | exact this) GW351.out))) _).trans (hHeld.2.2.2.2.1)))), ((cell_far (p := ⟨gb351, _, none⟩) (by first | exact Nat.ne_of_lt (Nat.lt_of_lt_of_le (by have := World.block_lt_of_cell? _ _ hw354_0; first | rwa [add_block] at this | exact this) GW351.out) | (rw [add_block]; exact Nat.ne_of_lt (Nat.lt_of_lt_of_le (by have := World.block_lt_of_cell? _ _ hw354_0; first | rwa [add_block] at this | exact this) GW351.out)) | (show (Addr.add _ _).block ≠ _; rw [add_block]; exact Nat.ne_of_lt (Nat.lt_of_lt_of_le (by have := World.block_lt_of_cell? _ _ hw354_0; first | rwa [add_block] at this | exact this) GW351.out)) | (dsimp only; exact Nat.ne_of_lt (Nat.lt_of_lt_of_le (by have := World.block_lt_of_cell? _ _ hw354_0; first | rwa [add_block] at this | exact this) GW351.out))) _).trans (((cell_far (p := ⟨gb351, _, none⟩) (by first | exact Nat.ne_of_lt (Nat.lt_of_lt_of_le (by have := World.block_lt_of_cell? _ _ hw354_0; first | rwa [add_block] at this | exact this) GW351.out) | (rw [add_block]; exact Nat.ne_of_lt (Nat.lt_of_lt_of_le (by have := World.block_lt_of_cell? _ _ hw354_0; first | rwa [add_block] at this | exact this) GW351.out)) | (show (Addr.add _ _).block ≠ _; rw [add_block]; exact Nat.ne_of_lt (Nat.lt_of_lt_of_le (by have := World.block_lt_of_cell? _ _ hw354_0; first | rwa [add_block] at this | exact this) GW351.out)) | (dsimp only; exact Nat.ne_of_lt (Nat.lt_of_lt_of_le (by have := World.block_lt_of_cell? _ _ hw354_0; first | rwa [add_block] at this | exact this) GW351.out))) _).trans (hHeld.2.2.2.2.2.1)))), ((cell_far (p := ⟨gb351, _, none⟩) (by first | exact Nat.ne_of_lt (Nat.lt_of_lt_of_le (by have := World.block_lt_of_cell? _ _ hw354_1; first | rwa [add_block] at this | exact this) GW351.out) | (rw [add_block]; exact Nat.ne_of_lt (Nat.lt_of_lt_of_le (by have := World.block_lt_of_cell? _ _ hw354_1; first | rwa [add_block] at this | exact this) GW351.out)) | (show (Addr.add _ _).block ≠ _; rw [add_block]; exact Nat.ne_of_lt (Nat.lt_of_lt_of_le (by have := World.block_lt_of_cell? _ _ hw354_1; first | rwa [add_block] at this | exact this) GW351.out)) | (dsimp only; exact Nat.ne_of_lt (Nat.lt_of_lt_of_le (by have := World.block_lt_of_cell? _ _ hw354_1; first | rwa [add_block] at this | exact this) GW351.out))) _).trans (((cell_far (p := ⟨gb351, _, none⟩) (by first | exact Nat.ne_of_lt (Nat.lt_of_lt_of_le (by have := World.block_lt_of_cell? _ _ hw354_1; first | rwa [add_block] at this | exact this) GW351.out) | (rw [add_block]; exact Nat.ne_of_lt (Nat.lt_of_lt_of_le (by have := World.block_lt_of_cell? _ _ hw354_1; first | rwa [add_block] at this | exact this) GW351.out)) | (show (Addr.add _ _).block ≠ _; rw [add_block]; exact Nat.ne_of_lt (Nat.lt_of_lt_of_le (by have := World.block_lt_of_cell? _ _ hw354_1; first | rwa [add_block] at this | exact this) GW351.out)) | (dsimp only; exact Nat.ne_of_lt (Nat.lt_of_lt_of_le (by have := World.block_lt_of_cell? _ _ hw354_1; first | rwa [add_block] at this | exact this) GW351.out))) _).trans (hHeld.2.2.2.2.2.2.1)))), ((cell_far (p := ⟨gb351, _, none⟩) (by first | exact Nat.ne_of_lt (Nat.lt_of_lt_of_le (by have := World.block_lt_of_cell? _ _ hw354_2; first | rwa [add_block] at this | exact this) GW351.out) | (rw [add_block]; exact Nat.ne_of_lt (Nat.lt_of_lt_of_le (by have := World.block_lt_of_cell? _ _ hw354_2; first | rwa [add_block] at this | exact this) GW351.out)) | (show (Addr.add _ _).block ≠ _; rw [add_block]; exact Nat.ne_of_lt (Nat.lt_of_lt_of_le (by have := World.block_lt_of_cell? _ _ hw354_2; first | rwa [add_block] at this | exact this) GW351.out)) | (dsimp only; exact Nat.ne_of_lt (Nat.lt_of_lt_of_le (by have := World.block_lt_of_cell? _ _ hw354_2; first | rwa [add_block] at this | exact this) GW351.out))) _).trans (((cell_far (p := ⟨gb351, _, none⟩) (by first | exact Nat.ne_of_lt (Nat.lt_of_lt_of_le (by have := World.block_lt_of_cell? _ _ hw354_2; first | rwa [add_block] at this | exact this) GW351.out) | (rw [add_block]; exact Nat.ne_of_lt (Nat.lt_of_lt_of_le (by have := World.block_lt_of_cell? _ _ hw354_2; first | rwa [add_block] at this | exact this) GW351.out)) | (show (Addr.add _ _).block ≠ _; rw [add_block]; exact Nat.ne_of_lt (Nat.lt_of_lt_of_le (by have := World.block_lt_of_cell? _ _ hw354_2; first | rwa [add_block] at this | exact this) GW351.out)) | (dsimp only; exact Nat.ne_of_lt (Nat.lt_of_lt_of_le (by have := World.block_lt_of_cell? _ _ hw354_2; first | rwa [add_block] at this | exact this) GW351.out))) _).trans (hHeld.2.2.2.2.2.2.2))))⟩ (fun hHeld => ?_)
            clear hK K
            refine pure_ (i := 16) (N := some 10) (v := ?_) (a' := ?_) #[true, true, true, true, true, true, true, true, true, true, true, true, true, true, true, true, true] rfl rfl (any_of HT_.out (by kernel_rfl)) (fun _ _ _ h => h) (Or.inl ⟨by rfl, ?_⟩) ?_ ?_
            rotate_left
            ·intro w'
             go_simp
             with_reducible rfl
            rotate_left
            ·simp only [Act.put, List.setIfInBounds_toArray, List.set_cons_zero, List.set_cons_succ, i64_w, i32_w]
             rfl
            refine done_ (done_of HT_.out (by kernel_rfl)) ?_
            try go_wp2
            go_meet
            case rel => exact ⟨_, (t359), (t355), (t356), (.slice Ao49 t356.length co49), (by first | rfl | (simp; done) | (simp [*]; done)), H', ⟨by have := HK1.out; have := HJ26.out; first | omega | exact Nat.le_refl _⟩, ⟨by (with_reducible repeat (first | apply Kd.V_alloc | apply Kd.V_drewN | apply Kd.V_drew)); exact Kd.V_mono (Kd.V_far (p := ⟨gb351, 1, none⟩) (Kd.V_far (p := ⟨gb351, 0, none⟩) (Kd.V_mono HO_334001.out (fun k_ hk => (⟨hk, hk.2⟩ : _ ∧ k_ ≠ gb351))) (fun _ hk => hk.2) (.int .i64 t355)) (fun _ hk => hk.2) (.slice Ao49 t356.length co49)) (fun _ hk => ⟨hk.1.1.1, ⟨hk.1.1.2.1, ⟨hk.1.1.2.2.1, ⟨hk.1.1.2.2.2.1, ⟨hk.1.1.2.2.2.2, hk.1.2⟩⟩⟩⟩⟩)⟩, ⟨by (with_reducible repeat (first | apply Kd.V_alloc | apply Kd.V_drewN | apply Kd.V_drew)); exact Kd.V_mono (Kd.V_far (p := ⟨gb351, 1, none⟩) (Kd.V_far (p := ⟨gb351, 0, none⟩) (Kd.V_mono HO_341001.out (fun k_ hk => (⟨hk, hk.2⟩ : _ ∧ k_ ≠ gb351))) (fun _ hk => hk.2) (.int .i64 t355)) (fun _ hk => hk.2) (.slice Ao49 t356.length co49)) (fun _ hk => ⟨hk.1.1.1, ⟨hk.1.1.2.1, ⟨hk.1.1.2.2.1, ⟨hk.1.1.2.2.2.1, ⟨hk.1.1.2.2.2.2, hk.1.2⟩⟩⟩⟩⟩)⟩, ⟨by (with_reducible repeat (first | apply Kd.R_alloc | apply Kd.R_drewN | apply Kd.R_drew)); exact Kd.R_mono (Kd.R_far (p := ⟨gb351, 1, none⟩) (Kd.R_far (p := ⟨gb351, 0, none⟩) (Kd.R_types HO348.out BK351.out (by decide)) (fun _ hk => hk.2) (.int .i64 t355)) (fun _ hk => hk.2) (.slice Ao49 t356.length co49)) (fun _ hk => hk.1)⟩, ⟨by (with_reducible repeat (first | apply Kd.V_alloc | apply Kd.V_drewN | apply Kd.V_drew)); exact Kd.V_mono (Kd.V_far (p := ⟨gb351, 1, none⟩) (Kd.V_far (p := ⟨gb351, 0, none⟩) (Kd.V_mono HO358.out (fun k_ hk => (⟨hk, hk.2.2.2.2.2⟩ : _ ∧ k_ ≠ gb351))) (fun _ hk => hk.2) (.int .i64 t355)) (fun _ hk => hk.2) (.slice Ao49 t356.length co49)) (fun _ hk => ⟨hk.1.1, ⟨hk.1.2.1, ⟨hk.1.2.2.1, ⟨hk.1.2.2.2.1, ⟨hk.1.2.2.2.2.1, hk.1.2.2.2.2.2⟩⟩⟩⟩⟩)⟩, ⟨by (with_reducible repeat (first | refine blk_drewN ?_ _ | refine blk_drew ?_ | refine blk_alloc ?_ _)); refine blk_far ?_ NB333_351.out _; (with_reducible repeat (first | refine blk_drewN ?_ _ | refine blk_drew ?_ | refine blk_alloc ?_ _)); refine blk_far ?_ NB333_351.out _; (with_reducible repeat (first | refine blk_drewN ?_ _ | refine blk_drew ?_ | refine blk_alloc ?_ _)); exact BK333.out⟩, ⟨by (with_reducible repeat (first | refine blk_drewN ?_ _ | refine blk_drew ?_ | refine blk_alloc ?_ _)); refine blk_far ?_ NB340_351.out _; (with_reducible repeat (first | refine blk_drewN ?_ _ | refine blk_drew ?_ | refine blk_alloc ?_ _)); refine blk_far ?_ NB340_351.out _; (with_reducible repeat (first | refine blk_drewN ?_ _ | refine blk_drew ?_ | refine blk_alloc ?_ _)); exact BK340.out⟩, ⟨by (with_reducible repeat (first | refine blk_drewN ?_ _ | refine blk_drew ?_ | refine blk_alloc ?_ _)); refine blk_far ?_ NB350_351.out _; (with_reducible repeat (first | refine blk_drewN ?_ _ | refine blk_drew ?_ | refine blk_alloc ?_ _)); refine blk_far ?_ NB350_351.out _; (with_reducible repeat (first | refine blk_drewN ?_ _ | refine blk_drew ?_ | refine blk_alloc ?_ _)); exact BK350.out⟩, ⟨by (with_reducible repeat (first | refine blk_drewN ?_ _ | refine blk_drew ?_ | refine blk_alloc ?_ _)); refine blk_put (cs := #[.int .i64 t355, .slice none 0 0]) ?_ 1 _ rfl; (with_reducible repeat (first | refine blk_drewN ?_ _ | refine blk_drew ?_ | refine blk_alloc ?_ _)); refine blk_put (cs := #[.int .i64 0, .slice none 0 0]) ?_ 0 _ rfl; (with_reducible repeat (first | refine blk_drewN ?_ _ | refine blk_drew ?_ | refine blk_alloc ?_ _)); exact BK351.out⟩, ⟨by repeat (first | (with_reducible first | exact HB.out | apply below_alloc | apply pw_below_drewN | apply below_drew1 | refine below_set ?_ GE333.out | refine below_set ?_ GE340.out | refine below_set ?_ GE350.out | refine below_set ?_ GE351.out) | exact HB.out)⟩⟩
           ·rw [if_neg c43] at H
            have c43b0 : (((rd_T46 l1 x6_1).f0) == 0) = false := beq_eq_false_iff_ne.mpr c43
            have c43b1 : (((rd_T46 l1 x6_1).f0) != 0) = true := bne_iff_ne.mpr c43
            (first | rw [c43b0] | (simp only [i64_w, i32_w]; rw [c43b0]) | skip)
            replace H := Option.bind_eq_some_iff.mp H
            obtain ⟨⟨t361, t362, t365⟩, A510, H⟩ := H
            replace H : (haywainlaw11_ViewPlays.j2 kj26 l1 x6_1 t349 t365 t345 t346 t361 t362) = some r := H
            have A51 := Aside0.mk A510
            clear A510
            have H' := Aside0.mk H
            clear H
            try go_wp2
            have n0_ := Aside0.mk (Kd.V_drew HO_334001.out)
            have n1_ := Aside0.mk (Kd.V_drew HO_341001.out)
            have n2_ := Aside0.mk (Kd.R_drew HO348.out)
            have n3_ := Aside0.mk (blk_drew BK333.out)
            have n4_ := Aside0.mk (blk_drew BK340.out)
            have n5_ := Aside0.mk (blk_drew BK350.out)
            have n6_ := Aside0.mk (blk_drew BK351.out)
            have n7_ := Aside0.mk (below_drew1 HB.out)
            clear HO_334001
            clear HO_341001
            clear HO348
            clear BK333
            clear BK340
            clear BK350
            clear BK351
            clear HB
            have HO_334001 := n0_
            have HO_341001 := n1_
            have HO348 := n2_
            have BK333 := n3_
            have BK340 := n4_
            have BK350 := n5_
            have BK351 := n6_
            have HB := n7_
            clear n0_ n1_ n2_ n3_ n4_ n5_ n6_ n7_
            have p360 : 0 ≤ (x6_1 : Int) := of_decide_eq_true (by first | (with_reducible assumption) | assumption)
            have q360 : x6_1 < (l1.length : Int) := of_decide_eq_true (by first | (with_reducible assumption) | assumption)
            obtain ⟨ad360, e360, hx360_0, hx360_1, hx360_2⟩ := at_T46 HR1.out x6_1 p360 q360
            have hw360_2 := hx360_2
            have hw360_1 := hx360_1
            have hw360_0 := hx360_0
            obtain rfl : ad344 = ad360 := (by injection e360)
            replace hx360_0 := (HB.out.cell (World.block_lt_of_cell? w _ hx360_0)).trans hx360_0
            replace hx360_1 := (HB.out.cell (World.block_lt_of_cell? w _ hx360_1)).trans hx360_1
            replace hx360_2 := (HB.out.cell (World.block_lt_of_cell? w _ hx360_2)).trans hx360_2
            replace p360 := eq_true p360
            replace q360 := eq_true q360
            obtain ⟨Ao53, co53, eo53⟩ := Kd.V_slice HO_341001.out
            (first | subst eo53 | (injection eo53 with f1_ f2_ f3_; have f4_ := f1_.symm; have f5_ := f3_.symm; clear f1_ f2_ f3_; subst f4_; subst f5_))
            refine start_ (n := 12) (S := fun w' => w'.cell? ⟨gb340, 0, none⟩ = some (.int .i64 x341000_1) ∧ w'.cell? ⟨gb340, 1, none⟩ = some (.slice Ao53 x341001_1.length co53) ∧ w'.cell? (ad344.add ((x6_1).toNat * 3)) = some (.int .i64 ((rd_T46 l1 x6_1).f0)) ∧ w'.cell? ⟨(ad344.add ((x6_1).toNat * 3)).block, (ad344.add ((x6_1).toNat * 3)).off + 1, none⟩ = some (.int .i64 ((rd_T46 l1 x6_1).f1)) ∧ w'.cell? ⟨(ad344.add ((x6_1).toNat * 3)).block, (ad344.add ((x6_1).toNat * 3)).off + 2, none⟩ = some (.int .i64 ((rd_T46 l1 x6_1).f2))) (ds := []) #[false, false, false, false, false, false, false, false, false, false, false, false] (by kernel_rfl) rfl rfl ⟨(blk_cell BK340.out 0).trans rfl, (blk_cell BK340.out 1).trans rfl, ((HB.out.cell (World.block_lt_of_cell? w _ hw360_0)).trans hw360_0), ((HB.out.cell (World.block_lt_of_cell? w _ hw360_1)).trans hw360_1), ((HB.out.cell (World.block_lt_of_cell? w _ hw360_2)).trans hw360_2)⟩ (fun hHeld => ?_); refine with_tabW haywainlaw11_ViewPlays.tab14 haywainlaw11_ViewPlays.bits14 (fun HT_ HW_ => ?_)
            generalize w42.drew = w52 at HO_334001 HO_341001 HO348 BK333 BK340 BK350 BK351 HB hx360_0 hx360_1 hx360_2 hHeld ⊢
            refine pure_ (i := 1) (N := some 63) (v := ?_) (a' := ?_) #[false, true, false, false, false, false, false, false, false, false, false, false] rfl rfl (any_of HT_.out (by kernel_rfl)) (fun _ _ _ h => h) (Or.inl ⟨by rfl, ?_⟩) ?_ ?_
            rotate_left
            ·intro w'
             go_simp
             with_reducible rfl
            rotate_left
            ·simp only [Act.put, List.setIfInBounds_toArray, List.set_cons_zero, List.set_cons_succ, i64_w, i32_w]
             rfl
            refine pure_ (i := 2) (N := some 64) (v := ?_) (a' := ?_) #[false, true, true, false, false, false, false, false, false, false, false, false] rfl rfl (any_of HT_.out (by kernel_rfl)) (fun _ _ _ h => h) (Or.inl ⟨by rfl, ?_⟩) ?_ ?_
            rotate_left
            ·intro w'
             go_simp
             with_reducible rfl
            rotate_left
            ·simp only [Act.put, List.setIfInBounds_toArray, List.set_cons_zero, List.set_cons_succ, i64_w, i32_w]
             rfl
            refine pure_ (i := 3) (N := some 65) (v := ?_) (a' := ?_) #[false, true, true, true, false, false, false, false, false, false, false, false] rfl rfl (any_of HT_.out (by kernel_rfl)) (fun _ _ _ h => h) (Or.inl ⟨by rfl, ?_⟩) ?_ ?_
            rotate_left
            ·intro w'
             go_simp
             with_reducible rfl
            rotate_left
            ·simp only [Act.put, List.setIfInBounds_toArray, List.set_cons_zero, List.set_cons_succ, i64_w, i32_w]
             rfl
            refine pure_ (i := 4) (N := some 66) (v := ?_) (a' := ?_) #[false, true, true, true, true, false, false, false, false, false, false, false] rfl rfl (any_of HT_.out (by kernel_rfl)) (fun _ _ _ h => h) (Or.inl ⟨by rfl, ?_⟩) ?_ ?_
            rotate_left
            ·intro w'
             go_simp
             with_reducible rfl
            rotate_left
            ·simp only [Act.put, List.setIfInBounds_toArray, List.set_cons_zero, List.set_cons_succ, i64_w, i32_w]
             rfl
            refine take_ (i := 0) (N := some 62) (v := ?_) (a' := ?_) #[true, true, true, true, true, false, false, false, false, false, false, false] rfl rfl (take_ofW HT_.out HW_.out (by kernel_rfl)) (fun _ _ _ h => h) (Or.inl ⟨by rfl, ?_⟩) hHeld ?_ ?_
            rotate_left
            ·rintro w' ⟨s0, s1, s2, s3, s4⟩
             go_simp
             with_reducible rfl
            rotate_left
            ·simp only [Act.put, List.setIfInBounds_toArray, List.set_cons_zero, List.set_cons_succ, i64_w, i32_w]
             rfl
            refine take_ (i := 5) (N := some 67) (v := ?_) (a' := ?_) #[true, true, true, true, true, true, false, false, false, false, false, false] rfl rfl (take_ofW HT_.out HW_.out (by kernel_rfl)) (fun _ _ _ h => h) (Or.inl ⟨by rfl, ?_⟩) hHeld ?_ ?_
            rotate_left
            ·rintro w' ⟨s0, s1, s2, s3, s4⟩
             go_simp
             with_reducible rfl
            rotate_left
            ·simp only [Act.put, List.setIfInBounds_toArray, List.set_cons_zero, List.set_cons_succ, i64_w, i32_w]
             rfl
            refine one_ (i := 6) (N := some 68) #[true, true, true, true, true, true, true, false, false, false, false, false] rfl rfl (one_of HT_.out (by kernel_rfl)) (by decide) (fun K hK => ?_)
            refine goes_ Try.func23 (by kernel_rfl) rfl #[.agg #[.int .i64 x341000_1, .slice Ao53 x341001_1.length co53], .int .i64 ((rd_T46 l1 x6_1).f1)] (by rfl) rfl rfl (by (try simp only [List.map_toArray, List.map_cons, List.map_nil]); first | done | rfl | (simp only [List.length_drop, List.length_take]; rfl)) ?_
            with_reducible refine (haywainref11_Leave.calls kj26 x341000_1 (fun k_ => (((P0_1_ k_ ∨ w.heap.size ≤ k_) ∧ (some k_ ≠ (.slice Ao40 t346.length co40 : Value).ownBlock ∧ (k_ ≠ gb333 ∧ (k_ ≠ gb340 ∧ k_ ≠ gb350)))) ∧ k_ ≠ gb351)) _ _ x341001_1 ((rd_T46 l1 x6_1).f1) t361 t362 t365 _ ?side1 A51.out).mono ?_
            (case side1 => exact HO_341001.out)
            rintro e w54 ⟨v363, rfl, ho0, hb⟩
            refine ⟨_, rfl, ?_⟩
            have n0_ := Aside0.mk (Kd.V_below (by (with_reducible repeat (first | apply Kd.V_alloc | apply Kd.V_drewN | apply Kd.V_drew)); exact HO_334001.out) hb)
            have n1_ := Aside0.mk (Kd.V_below (by (with_reducible repeat (first | apply Kd.V_alloc | apply Kd.V_drewN | apply Kd.V_drew)); exact HO_341001.out) hb)
            have n2_ := Aside0.mk (Kd.R_below (by (with_reducible repeat (first | apply Kd.R_alloc | apply Kd.R_drewN | apply Kd.R_drew)); exact HO348.out) hb)
            have n3_ := Aside0.mk (Kd.V_lower (Kd.V_mono (ok' := fun k_ => (P0_1_ k_ ∨ w.heap.size ≤ k_) ∧ some k_ ≠ (.slice Ao40 t346.length co40 : Value).ownBlock ∧ k_ ≠ gb333 ∧ k_ ≠ gb340 ∧ k_ ≠ gb350 ∧ k_ ≠ gb351) ho0 (fun k_ hk_ => ⟨Or.elim hk_ (fun hs_ => hs_.1.1) (fun hn_ => (.inr (Nat.le_trans (below_size (by repeat (first | (with_reducible first | exact HB.out | apply below_alloc | apply pw_below_drewN | apply below_drew1 | refine below_set ?_ GE333.out | refine below_set ?_ GE340.out | refine below_set ?_ GE350.out | refine below_set ?_ GE351.out) | exact HB.out))) hn_))), Or.elim hk_ (fun hs_ => hs_.1.2.1) (fun hn_ => (Kd.fresh' (Kd.R_lt (by (with_reducible repeat (first | apply Kd.R_alloc | apply Kd.R_drewN | apply Kd.R_drew)); exact HO348.out)) k_ hn_)), Or.elim hk_ (fun hs_ => hs_.1.2.2.1) (fun hn_ => (Kd.freshB (g := gb333) (o := .cells #[.int .i64 x334000_1, .slice Ao34 x334001_1.length co34] 24 (0, 0)) (by (with_reducible repeat (first | refine blk_drewN ?_ _ | refine blk_drew ?_ | refine blk_alloc ?_ _)); exact BK333.out) k_ hn_)), Or.elim hk_ (fun hs_ => hs_.1.2.2.2.1) (fun hn_ => (Kd.freshB (g := gb340) (o := .cells #[.int .i64 x341000_1, .slice Ao53 x341001_1.length co53] 29 (0, 0)) (by (with_reducible repeat (first | refine blk_drewN ?_ _ | refine blk_drew ?_ | refine blk_alloc ?_ _)); exact BK340.out) k_ hn_)), Or.elim hk_ (fun hs_ => hs_.1.2.2.2.2) (fun hn_ => (Kd.freshB (g := gb350) (o := .cells #[.int .i64 t345, .slice Ao40 t346.length co40] 24 (0, 0)) (by (with_reducible repeat (first | refine blk_drewN ?_ _ | refine blk_drew ?_ | refine blk_alloc ?_ _)); exact BK350.out) k_ hn_)), Or.elim hk_ (fun hs_ => hs_.2) (fun hn_ => (Kd.freshB (g := gb351) (o := .cells #[.int .i64 0, .slice none 0 0] 29 (0, 0)) (by (with_reducible repeat (first | refine blk_drewN ?_ _ | refine blk_drew ?_ | refine blk_alloc ?_ _)); exact BK351.out) k_ hn_))⟩)) (below_size (by repeat (first | (with_reducible first | exact HB.out | apply below_alloc | apply pw_below_drewN | apply below_drew1 | refine below_set ?_ GE333.out | refine below_set ?_ GE340.out | refine below_set ?_ GE350.out | refine below_set ?_ GE351.out) | exact HB.out))))
            have n4_ := Aside0.mk (blk_below (g := gb333) (o := .cells #[.int .i64 x334000_1, .slice Ao34 x334001_1.length co34] 24 (0, 0)) (by (with_reducible repeat (first | refine blk_drewN ?_ _ | refine blk_drew ?_ | refine blk_alloc ?_ _)); exact BK333.out) hb)
            have n5_ := Aside0.mk (blk_below (g := gb340) (o := .cells #[.int .i64 x341000_1, .slice Ao53 x341001_1.length co53] 29 (0, 0)) (by (with_reducible repeat (first | refine blk_drewN ?_ _ | refine blk_drew ?_ | refine blk_alloc ?_ _)); exact BK340.out) hb)
            have n6_ := Aside0.mk (blk_below (g := gb350) (o := .cells #[.int .i64 t345, .slice Ao40 t346.length co40] 24 (0, 0)) (by (with_reducible repeat (first | refine blk_drewN ?_ _ | refine blk_drew ?_ | refine blk_alloc ?_ _)); exact BK350.out) hb)
            have n7_ := Aside0.mk (blk_below (g := gb351) (o := .cells #[.int .i64 0, .slice none 0 0] 29 (0, 0)) (by (with_reducible repeat (first | refine blk_drewN ?_ _ | refine blk_drew ?_ | refine blk_alloc ?_ _)); exact BK351.out) hb)
            have n8_ := Aside0.mk (below_step (by repeat (first | (with_reducible first | exact HB.out | apply below_alloc | apply pw_below_drewN | apply below_drew1 | refine below_set ?_ GE333.out | refine below_set ?_ GE340.out | refine below_set ?_ GE350.out | refine below_set ?_ GE351.out) | exact HB.out)) hb)
            clear HO_334001
            clear HO_341001
            clear HO348
            clear BK333
            clear BK340
            clear BK350
            clear BK351
            clear HB
            have HO_334001 := n0_
            have HO_341001 := n1_
            have HO348 := n2_
            have HO364 := n3_
            have BK333 := n4_
            have BK340 := n5_
            have BK350 := n6_
            have BK351 := n7_
            have HB := n8_
            clear n0_ n1_ n2_ n3_ n4_ n5_ n6_ n7_ n8_
            (try clear hb)
            (try clear hb2)
            (try clear hk)
            (try clear hi)
            (try clear ho0)
            obtain ⟨Ao56, co56, eo56⟩ := Kd.V_slice HO364.out
            (first | subst eo56 | (injection eo56 with f1_ f2_ f3_; have f4_ := f1_.symm; have f5_ := f3_.symm; clear f1_ f2_ f3_; subst f4_; subst f5_))
            refine hK.out _ _ ⟨(blk_cell BK340.out 0).trans rfl, (blk_cell BK340.out 1).trans rfl, ((HB.out.cell (World.block_lt_of_cell? w _ hw360_0)).trans hw360_0), ((HB.out.cell (World.block_lt_of_cell? w _ hw360_1)).trans hw360_1), ((HB.out.cell (World.block_lt_of_cell? w _ hw360_2)).trans hw360_2)⟩ (fun hHeld => ?_)
            clear hK K
            refine norm_ (a' := ?_) ?_ ?_
            rotate_left
            ·show Act.put _ (some 68) _ = _
             simp only [Act.put, List.setIfInBounds_toArray, List.set_cons_zero, List.set_cons_succ, i64_w, i32_w]
             rfl
            refine pure_ (i := 7) (N := some 61) (v := ?_) (a' := ?_) #[true, true, true, true, true, true, true, true, false, false, false, false] rfl rfl (any_of HT_.out (by kernel_rfl)) (fun _ _ _ h => h) (Or.inl ⟨by rfl, ?_⟩) ?_ ?_
            rotate_left
            ·intro w'
             go_simp
             with_reducible rfl
            rotate_left
            ·simp only [Act.put, List.setIfInBounds_toArray, List.set_cons_zero, List.set_cons_succ, i64_w, i32_w]
             rfl
            refine pure_ (i := 8) (N := some 69) (v := ?_) (a' := ?_) #[true, true, true, true, true, true, true, true, true, false, false, false] rfl rfl (any_of HT_.out (by kernel_rfl)) (fun _ _ _ h => h) (Or.inl ⟨by rfl, ?_⟩) ?_ ?_
            rotate_left
            ·intro w'
             go_simp
             with_reducible rfl
            rotate_left
            ·simp only [Act.put, List.setIfInBounds_toArray, List.set_cons_zero, List.set_cons_succ, i64_w, i32_w]
             rfl
            refine pure_ (i := 9) (N := some 70) (v := ?_) (a' := ?_) #[true, true, true, true, true, true, true, true, true, true, false, false] rfl rfl (any_of HT_.out (by kernel_rfl)) (fun _ _ _ h => h) (Or.inl ⟨by rfl, ?_⟩) ?_ ?_
            rotate_left
            ·intro w'
             go_simp
             with_reducible rfl
            rotate_left
            ·simp only [Act.put, List.setIfInBounds_toArray, List.set_cons_zero, List.set_cons_succ, i64_w, i32_w]
             rfl
            refine one_ (i := 10) (N := none) #[true, true, true, true, true, true, true, true, true, true, true, false] rfl rfl (one_of HT_.out (by kernel_rfl)) (by decide) (fun K hK => ?_)
            have hs55 : w54.cell? ⟨gb351, 0, none⟩ = some (.int .i64 0) := (blk_cell BK351.out 0).trans rfl
            have hfs55 := blk_frozen BK351.out 0
            have hns55_0 := NB333_351.out
            have hns55_1 := NB340_351.out
            have hns55_2 := NB350_351.out
            have hms55_0 := NB351_333.out
            have hms55_1 := NB351_340.out
            have hms55_2 := NB351_350.out
            have hs57 : w54.cell? ⟨gb351, 1, none⟩ = some (.slice none 0 0) := (blk_cell BK351.out 1).trans rfl
            have hfs57 := blk_frozen BK351.out 1
            have hns57_0 := NB333_351.out
            have hns57_1 := NB340_351.out
            have hns57_2 := NB350_351.out
            have hms57_0 := NB351_333.out
            have hms57_1 := NB351_340.out
            have hms57_2 := NB351_350.out
            refine skip_ (w1 := ?_) (by rfl) rfl ?_ ?_
            rotate_left
            ·go_simp
             rfl
            refine hK.out _ _ ⟨((cell_far (p := ⟨gb351, _, none⟩) NB340_351.out _).trans (((cell_far (p := ⟨gb351, _, none⟩) NB340_351.out _).trans (hHeld.1)))), ((cell_far (p := ⟨gb351, _, none⟩) NB340_351.out _).trans (((cell_far (p := ⟨gb351, _, none⟩) NB340_351.out _).trans (hHeld.2.1)))), ((cell_far (p := ⟨gb351, _, none⟩) (by first | exact Nat.ne_of_lt (Nat.lt_of_lt_of_le (by have := World.block_lt_of_cell? _ _ hw360_0; first | rwa [add_block] at this | exact this) GW351.out) | (rw [add_block]; exact Nat.ne_of_lt (Nat.lt_of_lt_of_le (by have := World.block_lt_of_cell? _ _ hw360_0; first | rwa [add_block] at this | exact this) GW351.out)) | (show (Addr.add _ _).block ≠ _; rw [add_block]; exact Nat.ne_of_lt (Nat.lt_of_lt_of_le (by have := World.block_lt_of_cell? _ _ hw360_0; first | rwa [add_block] at this | exact this) GW351.out)) | (dsimp only; exact Nat.ne_of_lt (Nat.lt_of_lt_of_le (by have := World.block_lt_of_cell? _ _ hw360_0; first | rwa [add_block] at this | exact this) GW351.out))) _).trans (((cell_far (p := ⟨gb351, _, none⟩) (by first | exact Nat.ne_of_lt (Nat.lt_of_lt_of_le (by have := World.block_lt_of_cell? _ _ hw360_0; first | rwa [add_block] at this | exact this) GW351.out) | (rw [add_block]; exact Nat.ne_of_lt (Nat.lt_of_lt_of_le (by have := World.block_lt_of_cell? _ _ hw360_0; first | rwa [add_block] at this | exact this) GW351.out)) | (show (Addr.add _ _).block ≠ _; rw [add_block]; exact Nat.ne_of_lt (Nat.lt_of_lt_of_le (by have := World.block_lt_of_cell? _ _ hw360_0; first | rwa [add_block] at this | exact this) GW351.out)) | (dsimp only; exact Nat.ne_of_lt (Nat.lt_of_lt_of_le (by have := World.block_lt_of_cell? _ _ hw360_0; first | rwa [add_block] at this | exact this) GW351.out))) _).trans (hHeld.2.2.1)))), ((cell_far (p := ⟨gb351, _, none⟩) (by first | exact Nat.ne_of_lt (Nat.lt_of_lt_of_le (by have := World.block_lt_of_cell? _ _ hw360_1; first | rwa [add_block] at this | exact this) GW351.out) | (rw [add_block]; exact Nat.ne_of_lt (Nat.lt_of_lt_of_le (by have := World.block_lt_of_cell? _ _ hw360_1; first | rwa [add_block] at this | exact this) GW351.out)) | (show (Addr.add _ _).block ≠ _; rw [add_block]; exact Nat.ne_of_lt (Nat.lt_of_lt_of_le (by have := World.block_lt_of_cell? _ _ hw360_1; first | rwa [add_block] at this | exact this) GW351.out)) | (dsimp only; exact Nat.ne_of_lt (Nat.lt_of_lt_of_le (by have := World.block_lt_of_cell? _ _ hw360_1; first | rwa [add_block] at this | exact this) GW351.out))) _).trans (((cell_far (p := ⟨gb351, _, none⟩) (by first | exact Nat.ne_of_lt (Nat.lt_of_lt_of_le (by have := World.block_lt_of_cell? _ _ hw360_1; first | rwa [add_block] at this | exact this) GW351.out) | (rw [add_block]; exact Nat.ne_of_lt (Nat.lt_of_lt_of_le (by have := World.block_lt_of_cell? _ _ hw360_1; first | rwa [add_block] at this | exact this) GW351.out)) | (show (Addr.add _ _).block ≠ _; rw [add_block]; exact Nat.ne_of_lt (Nat.lt_of_lt_of_le (by have := World.block_lt_of_cell? _ _ hw360_1; first | rwa [add_block] at this | exact this) GW351.out)) | (dsimp only; exact Nat.ne_of_lt (Nat.lt_of_lt_of_le (by have := World.block_lt_of_cell? _ _ hw360_1; first | rwa [add_block] at this | exact this) GW351.out))) _).trans (hHeld.2.2.2.1)))), ((cell_far (p := ⟨gb351, _, none⟩) (by first | exact Nat.ne_of_lt (Nat.lt_of_lt_of_le (by have := World.block_lt_of_cell? _ _ hw360_2; first | rwa [add_block] at this | exact this) GW351.out) | (rw [add_block]; exact Nat.ne_of_lt (Nat.lt_of_lt_of_le (by have := World.block_lt_of_cell? _ _ hw360_2; first | rwa [add_block] at this | exact this) GW351.out)) | (show (Addr.add _ _).block ≠ _; rw [add_block]; exact Nat.ne_of_lt (Nat.lt_of_lt_of_le (by have := World.block_lt_of_cell? _ _ hw360_2; first | rwa [add_block] at this | exact this) GW351.out)) | (dsimp only; exact Nat.ne_of_lt (Nat.lt_of_lt_of_le (by have := World.block_lt_of_cell? _ _ hw360_2; first | rwa [add_block] at this | exact this) GW351.out))) _).trans (((cell_far (p := ⟨gb351, _, none⟩) (by first | exact Nat.ne_of_lt (Nat.lt_of_lt_of_le (by have := World.block_lt_of_cell? _ _ hw360_2; first | rwa [add_block] at this | exact this) GW351.out) | (rw [add_block]; exact Nat.ne_of_lt (Nat.lt_of_lt_of_le (by have := World.block_lt_of_cell? _ _ hw360_2; first | rwa [add_block] at this | exact this) GW351.out)) | (show (Addr.add _ _).block ≠ _; rw [add_block]; exact Nat.ne_of_lt (Nat.lt_of_lt_of_le (by have := World.block_lt_of_cell? _ _ hw360_2; first | rwa [add_block] at this | exact this) GW351.out)) | (dsimp only; exact Nat.ne_of_lt (Nat.lt_of_lt_of_le (by have := World.block_lt_of_cell? _ _ hw360_2; first | rwa [add_block] at this | exact this) GW351.out))) _).trans (hHeld.2.2.2.2))))⟩ (fun hHeld => ?_)
            clear hK K
            refine pure_ (i := 11) (N := some 10) (v := ?_) (a' := ?_) #[true, true, true, true, true, true, true, true, true, true, true, true] rfl rfl (any_of HT_.out (by kernel_rfl)) (fun _ _ _ h => h) (Or.inl ⟨by rfl, ?_⟩) ?_ ?_
            rotate_left
            ·intro w'
             go_simp
             with_reducible rfl
            rotate_left
            ·simp only [Act.put, List.setIfInBounds_toArray, List.set_cons_zero, List.set_cons_succ, i64_w, i32_w]
             rfl
            refine done_ (done_of HT_.out (by kernel_rfl)) ?_
            try go_wp2
            go_meet
            case rel => exact ⟨_, (t365), (t361), (t362), (.slice Ao56 t362.length co56), (by first | rfl | (simp; done) | (simp [*]; done)), H', ⟨by have := HK1.out; have := HJ26.out; first | omega | exact Nat.le_refl _⟩, ⟨by (with_reducible repeat (first | apply Kd.V_alloc | apply Kd.V_drewN | apply Kd.V_drew)); exact Kd.V_mono (Kd.V_far (p := ⟨gb351, 1, none⟩) (Kd.V_far (p := ⟨gb351, 0, none⟩) (Kd.V_mono HO_334001.out (fun k_ hk => (⟨hk, hk.2⟩ : _ ∧ k_ ≠ gb351))) (fun _ hk => hk.2) (.int .i64 t361)) (fun _ hk => hk.2) (.slice Ao56 t362.length co56)) (fun _ hk => ⟨hk.1.1.1, ⟨hk.1.1.2.1, ⟨hk.1.1.2.2.1, ⟨hk.1.1.2.2.2.1, ⟨hk.1.1.2.2.2.2, hk.1.2⟩⟩⟩⟩⟩)⟩, ⟨by (with_reducible repeat (first | apply Kd.V_alloc | apply Kd.V_drewN | apply Kd.V_drew)); exact Kd.V_mono (Kd.V_far (p := ⟨gb351, 1, none⟩) (Kd.V_far (p := ⟨gb351, 0, none⟩) (Kd.V_mono HO_341001.out (fun k_ hk => (⟨hk, hk.2⟩ : _ ∧ k_ ≠ gb351))) (fun _ hk => hk.2) (.int .i64 t361)) (fun _ hk => hk.2) (.slice Ao56 t362.length co56)) (fun _ hk => ⟨hk.1.1.1, ⟨hk.1.1.2.1, ⟨hk.1.1.2.2.1, ⟨hk.1.1.2.2.2.1, ⟨hk.1.1.2.2.2.2, hk.1.2⟩⟩⟩⟩⟩)⟩, ⟨by (with_reducible repeat (first | apply Kd.R_alloc | apply Kd.R_drewN | apply Kd.R_drew)); exact Kd.R_mono (Kd.R_far (p := ⟨gb351, 1, none⟩) (Kd.R_far (p := ⟨gb351, 0, none⟩) (Kd.R_types HO348.out BK351.out (by decide)) (fun _ hk => hk.2) (.int .i64 t361)) (fun _ hk => hk.2) (.slice Ao56 t362.length co56)) (fun _ hk => hk.1)⟩, ⟨by (with_reducible repeat (first | apply Kd.V_alloc | apply Kd.V_drewN | apply Kd.V_drew)); exact Kd.V_mono (Kd.V_far (p := ⟨gb351, 1, none⟩) (Kd.V_far (p := ⟨gb351, 0, none⟩) (Kd.V_mono HO364.out (fun k_ hk => (⟨hk, hk.2.2.2.2.2⟩ : _ ∧ k_ ≠ gb351))) (fun _ hk => hk.2) (.int .i64 t361)) (fun _ hk => hk.2) (.slice Ao56 t362.length co56)) (fun _ hk => ⟨hk.1.1, ⟨hk.1.2.1, ⟨hk.1.2.2.1, ⟨hk.1.2.2.2.1, ⟨hk.1.2.2.2.2.1, hk.1.2.2.2.2.2⟩⟩⟩⟩⟩)⟩, ⟨by (with_reducible repeat (first | refine blk_drewN ?_ _ | refine blk_drew ?_ | refine blk_alloc ?_ _)); refine blk_far ?_ NB333_351.out _; (with_reducible repeat (first | refine blk_drewN ?_ _ | refine blk_drew ?_ | refine blk_alloc ?_ _)); refine blk_far ?_ NB333_351.out _; (with_reducible repeat (first | refine blk_drewN ?_ _ | refine blk_drew ?_ | refine blk_alloc ?_ _)); exact BK333.out⟩, ⟨by (with_reducible repeat (first | refine blk_drewN ?_ _ | refine blk_drew ?_ | refine blk_alloc ?_ _)); refine blk_far ?_ NB340_351.out _; (with_reducible repeat (first | refine blk_drewN ?_ _ | refine blk_drew ?_ | refine blk_alloc ?_ _)); refine blk_far ?_ NB340_351.out _; (with_reducible repeat (first | refine blk_drewN ?_ _ | refine blk_drew ?_ | refine blk_alloc ?_ _)); exact BK340.out⟩, ⟨by (with_reducible repeat (first | refine blk_drewN ?_ _ | refine blk_drew ?_ | refine blk_alloc ?_ _)); refine blk_far ?_ NB350_351.out _; (with_reducible repeat (first | refine blk_drewN ?_ _ | refine blk_drew ?_ | refine blk_alloc ?_ _)); refine blk_far ?_ NB350_351.out _; (with_reducible repeat (first | refine blk_drewN ?_ _ | refine blk_drew ?_ | refine blk_alloc ?_ _)); exact BK350.out⟩, ⟨by (with_reducible repeat (first | refine blk_drewN ?_ _ | refine blk_drew ?_ | refine blk_alloc ?_ _)); refine blk_put (cs := #[.int .i64 t361, .slice none 0 0]) ?_ 1 _ rfl; (with_reducible repeat (first | refine blk_drewN ?_ _ | refine blk_drew ?_ | refine blk_alloc ?_ _)); refine blk_put (cs := #[.int .i64 0, .slice none 0 0]) ?_ 0 _ rfl; (with_reducible repeat (first | refine blk_drewN ?_ _ | refine blk_drew ?_ | refine blk_alloc ?_ _)); exact BK351.out⟩, ⟨by repeat (first | (with_reducible first | exact HB.out | apply below_alloc | apply pw_below_drewN | apply below_drew1 | refine below_set ?_ GE333.out | refine below_set ?_ GE340.out | refine below_set ?_ GE350.out | refine below_set ?_ GE351.out) | exact HB.out)⟩⟩
          case rest =>
           clear HC33
           try clear c2
           try clear p2
           try clear p3
           try clear q3
           try clear hx3
           try clear c4
           try clear c22
           try clear c23
           try clear p35
           try clear q35
           try clear hx35
           try clear p36
           try clear q36
           try clear hx36
           try clear c43
           try clear c43b0
           try clear c43b1
           try clear hx352_0
           try clear hx352_1
           try clear hx352_2
           try clear hx353_0
           try clear hx353_1
           try clear hx353_2
           try clear hx354_0
           try clear hx354_1
           try clear hx354_2
           try clear hx360_0
           try clear hx360_1
           try clear hx360_2
           try clear p352
           try clear p353
           try clear p354
           try clear p360
           try clear q352
           try clear q353
           try clear q354
           try clear q360
           obtain ⟨kq, x10_32, x352000_32, x352001_32, u352001, rfl, HA, HJ32, HO_334001, HO_341001, HO_351001, HO_352001, BK333, BK340, BK350, BK351, HB⟩ := hcut
           cases kq with
           | zero => exact absurd HA.out (by simp [haywainlaw11_ViewPlays.j2])
           | succ kj32 =>
            have H := HA.out
            clear HA
            simp only [haywainlaw11_ViewPlays.j2] at H
            by_cases c58 : t349 = x10_32
            ·rw [if_pos c58] at H
             have c58b0 : (t349 == x10_32) = true := beq_iff_eq.mpr c58
             have c58b1 : (t349 != x10_32) = false := bne_eq_false_iff_eq.mpr c58
             clear c58
             replace H := Option.bind_eq_some_iff.mp H
             obtain ⟨⟨t366, t367⟩, A590, H⟩ := H
             replace H : ((haywainref11_Same.f kj32 t366 t367 x352000_32 x352001_32).bind fun t370 => (if t370 = true then (haywainlaw11_ViewPlays.l0 kj32 l1 (wrap64 (x6_1 + 1)) t345 t346 x352000_32 x352001_32) else (none))) = some r := H
             have A59 := Aside0.mk A590
             clear A590
             replace H := Option.bind_eq_some_iff.mp H
             obtain ⟨t370, A600, H⟩ := H
             replace H : (if t370 = true then (haywainlaw11_ViewPlays.l0 kj32 l1 (wrap64 (x6_1 + 1)) t345 t346 x352000_32 x352001_32) else (none)) = some r := H
             have A60 := Aside0.mk A600
             clear A600
             by_cases c61 : t370 = true
             ·subst c61
              have H1 : (haywainlaw11_ViewPlays.l0 kj32 l1 (wrap64 (x6_1 + 1)) t345 t346 x352000_32 x352001_32) = some r := by rw [if_pos rfl] at H; exact H
              clear H
              have H := H1
              clear H1
              have H' := Aside0.mk H
              clear H
              try go_wp2
              have n0_ := Aside0.mk (Kd.V_drew HO_334001.out)
              have n1_ := Aside0.mk (Kd.V_drew HO_341001.out)
              have n2_ := Aside0.mk (Kd.R_drew HO_351001.out)
              have n3_ := Aside0.mk (Kd.V_drew HO_352001.out)
              have n4_ := Aside0.mk (blk_drew BK333.out)
              have n5_ := Aside0.mk (blk_drew BK340.out)
              have n6_ := Aside0.mk (blk_drew BK350.out)
              have n7_ := Aside0.mk (blk_drew BK351.out)
              have n8_ := Aside0.mk (below_drew1 HB.out)
              clear HO_334001
              clear HO_341001
              clear HO_351001
              clear HO_352001
              clear BK333
              clear BK340
              clear BK350
              clear BK351
              clear HB
              have HO_334001 := n0_
              have HO_341001 := n1_
              have HO_351001 := n2_
              have HO_352001 := n3_
              have BK333 := n4_
              have BK340 := n5_
              have BK350 := n6_
              have BK351 := n7_
              have HB := n8_
              clear n0_ n1_ n2_ n3_ n4_ n5_ n6_ n7_ n8_
              refine start_ (n := 10) (S := fun w' => w'.cell? ⟨gb350, 0, none⟩ = some (.int .i64 t345) ∧ w'.cell? ⟨gb350, 1, none⟩ = some (.slice Ao40 t346.length co40) ∧ w'.cell? ⟨gb351, 0, none⟩ = some (.int .i64 x352000_32) ∧ w'.cell? ⟨gb351, 1, none⟩ = some (u352001)) (ds := []) #[false, false, false, false, false, false, false, false, false, false] (by kernel_rfl) rfl rfl ⟨(blk_cell BK350.out 0).trans rfl, (blk_cell BK350.out 1).trans rfl, (blk_cell BK351.out 0).trans rfl, (blk_cell BK351.out 1).trans rfl⟩ (fun hHeld => ?_); refine with_tabW haywainlaw11_ViewPlays.tab15 haywainlaw11_ViewPlays.bits15 (fun HT_ HW_ => ?_)
              generalize wc.drew = w62 at HO_334001 HO_341001 HO_351001 HO_352001 BK333 BK340 BK350 BK351 HB hHeld ⊢
              refine pure_ (i := 0) (N := some 71) (v := ?_) (a' := ?_) #[true, false, false, false, false, false, false, false, false, false] rfl rfl (any_of HT_.out (by kernel_rfl)) (fun _ _ _ h => h) (Or.inl ⟨by rfl, ?_⟩) ?_ ?_
              rotate_left
              ·intro w'
               go_simp
               with_reducible rfl
              rotate_left
              ·simp only [Act.put, List.setIfInBounds_toArray, List.set_cons_zero, List.set_cons_succ, i64_w, i32_w]
               rfl
              refine pure_ (i := 1) (N := some 72) (v := ?_) (a' := ?_) #[true, true, false, false, false, false, false, false, false, false] rfl rfl (any_of HT_.out (by kernel_rfl)) (fun _ _ _ h => h) (Or.inl ⟨by rfl, ?_⟩) ?_ ?_
              rotate_left
              ·intro w'
               go_simp
               with_reducible rfl
              rotate_left
              ·simp only [Act.put, List.setIfInBounds_toArray, List.set_cons_zero, List.set_cons_succ, i64_w, i32_w]
               rfl
              refine pure_ (i := 2) (N := some 73) (v := ?_) (a' := ?_) #[true, true, true, false, false, false, false, false, false, false] rfl rfl (any_of HT_.out (by kernel_rfl)) (fun _ _ _ h => h) (Or.inl ⟨by rfl, ?_⟩) ?_ ?_
              rotate_left
              ·intro w'
               go_simp
               with_reducible rfl
              rotate_left
              ·simp only [Act.put, List.setIfInBounds_toArray, List.set_cons_zero, List.set_cons_succ, i64_w, i32_w]
               rfl
              refine pure_ (i := 3) (N := some 74) (v := ?_) (a' := ?_) #[true, true, true, true, false, false, false, false, false, false] rfl rfl (any_of HT_.out (by kernel_rfl)) (fun _ _ _ h => h) (Or.inl ⟨by rfl, ?_⟩) ?_ ?_
              rotate_left
              ·intro w'
               go_simp
               with_reducible rfl
              rotate_left
              ·simp only [Act.put, List.setIfInBounds_toArray, List.set_cons_zero, List.set_cons_succ, i64_w, i32_w]
               rfl
              refine take_ (i := 4) (N := some 75) (v := ?_) (a' := ?_) #[true, true, true, true, true, false, false, false, false, false] rfl rfl (take_ofW HT_.out HW_.out (by kernel_rfl)) (fun _ _ _ h => h) (Or.inl ⟨by rfl, ?_⟩) hHeld ?_ ?_
              rotate_left
              ·rintro w' ⟨s0, s1, s2, s3⟩
               go_simp
               with_reducible rfl
              rotate_left
              ·simp only [Act.put, List.setIfInBounds_toArray, List.set_cons_zero, List.set_cons_succ, i64_w, i32_w]
               rfl
              refine take_ (i := 6) (N := some 77) (v := ?_) (a' := ?_) #[true, true, true, true, true, false, true, false, false, false] rfl rfl (take_ofW HT_.out HW_.out (by kernel_rfl)) (fun _ _ _ h => h) (Or.inl ⟨by rfl, ?_⟩) hHeld ?_ ?_
              rotate_left
              ·rintro w' ⟨s0, s1, s2, s3⟩
               go_simp
               with_reducible rfl
              rotate_left
              ·simp only [Act.put, List.setIfInBounds_toArray, List.set_cons_zero, List.set_cons_succ, i64_w, i32_w]
               rfl
              refine one_ (i := 5) (N := some 76) #[true, true, true, true, true, true, true, false, false, false] rfl rfl (one_of HT_.out (by kernel_rfl)) (by decide) (fun K hK => ?_)
              refine goes_ Try.func11 (by kernel_rfl) rfl #[.agg #[.int .i64 t345, .slice Ao40 t346.length co40]] (by rfl) rfl rfl (by (try simp only [List.map_toArray, List.map_cons, List.map_nil]); first | done | rfl | (simp only [List.length_drop, List.length_take]; rfl)) ?_
              with_reducible refine (haywainlaw11_as.calls kj32 t345 _ _ t346 t366 t367 _ ?side1 ?side2 A59.out).mono ?_
              (case side1 => repeat (first | exact (Kd.R_reads' HO_351001.out).2.2 | (with_reducible refine Kd.C_alloc ?_ _) | (with_reducible refine Kd.C_drewN ?_ _) | (with_reducible refine Kd.C_drew ?_)))
              (case side2 => exact (Kd.R_reads' HO_351001.out).2.1)
              rintro e w63 ⟨v368, rfl, ho0, hb⟩
              refine ⟨_, rfl, ?_⟩
              have n0_ := Aside0.mk (Kd.V_elder' (by (with_reducible repeat (first | apply Kd.V_alloc | apply Kd.V_drewN | apply Kd.V_drew)); exact HO_334001.out) (Kd.R_base ho0) hb)
              have n1_ := Aside0.mk (Kd.V_elder' (by (with_reducible repeat (first | apply Kd.V_alloc | apply Kd.V_drewN | apply Kd.V_drew)); exact HO_341001.out) (Kd.R_base ho0) hb)
              have n2_ := Aside0.mk (Kd.R_below (by (with_reducible repeat (first | apply Kd.R_alloc | apply Kd.R_drewN | apply Kd.R_drew)); exact HO_351001.out) hb)
              have n3_ := Aside0.mk (Kd.V_elder' (by (with_reducible repeat (first | apply Kd.V_alloc | apply Kd.V_drewN | apply Kd.V_drew)); exact HO_352001.out) (Kd.R_base ho0) hb)
              have n4_ := Aside0.mk (Kd.R_lower (Kd.R_newM (M := fun k_ => (w.heap.size ≤ k_)) ho0 (below_size (by repeat (first | (with_reducible first | exact HB.out | apply below_alloc | apply pw_below_drewN | apply below_drew1 | refine below_set ?_ GE333.out | refine below_set ?_ GE340.out | refine below_set ?_ GE350.out | refine below_set ?_ GE351.out) | exact HB.out))) (fun k_ h_ => h_)) (below_size (by repeat (first | (with_reducible first | exact HB.out | apply below_alloc | apply pw_below_drewN | apply below_drew1 | refine below_set ?_ GE333.out | refine below_set ?_ GE340.out | refine below_set ?_ GE350.out | refine below_set ?_ GE351.out) | exact HB.out))))
              have n5_ := Aside0.mk (blk_below (g := gb333) (o := .cells #[.int .i64 x334000_1, .slice Ao34 x334001_1.length co34] 24 (0, 0)) (by (with_reducible repeat (first | refine blk_drewN ?_ _ | refine blk_drew ?_ | refine blk_alloc ?_ _)); exact BK333.out) hb)
              have n6_ := Aside0.mk (blk_below (g := gb340) (o := .cells #[.int .i64 x341000_1, u341001] 29 (0, 0)) (by (with_reducible repeat (first | refine blk_drewN ?_ _ | refine blk_drew ?_ | refine blk_alloc ?_ _)); exact BK340.out) hb)
              have n7_ := Aside0.mk (blk_below (g := gb350) (o := .cells #[.int .i64 t345, .slice Ao40 t346.length co40] 24 (0, 0)) (by (with_reducible repeat (first | refine blk_drewN ?_ _ | refine blk_drew ?_ | refine blk_alloc ?_ _)); exact BK350.out) hb)
              have n8_ := Aside0.mk (blk_below (g := gb351) (o := .cells #[.int .i64 x352000_32, u352001] 29 (0, 0)) (by (with_reducible repeat (first | refine blk_drewN ?_ _ | refine blk_drew ?_ | refine blk_alloc ?_ _)); exact BK351.out) hb)
              have n9_ := Aside0.mk (below_step (by repeat (first | (with_reducible first | exact HB.out | apply below_alloc | apply pw_below_drewN | apply below_drew1 | refine below_set ?_ GE333.out | refine below_set ?_ GE340.out | refine below_set ?_ GE350.out | refine below_set ?_ GE351.out) | exact HB.out)) hb)
              clear HO_334001
              clear HO_341001
              clear HO_351001
              clear HO_352001
              clear BK333
              clear BK340
              clear BK350
              clear BK351
              clear HB
              have HO_334001 := n0_
              have HO_341001 := n1_
              have HO_351001 := n2_
              have HO_352001 := n3_
              have HO369 := n4_
              have BK333 := n5_
              have BK340 := n6_
              have BK350 := n7_
              have BK351 := n8_
              have HB := n9_
              clear n0_ n1_ n2_ n3_ n4_ n5_ n6_ n7_ n8_ n9_
              (try clear hb)
              (try clear hb2)
              (try clear hk)
              (try clear hi)
              (try clear ho0)
              obtain ⟨Ao64, co64, eo64⟩ := Kd.R_slice HO369.out
              (first | subst eo64 | (injection eo64 with f1_ f2_ f3_; have f4_ := f1_.symm; have f5_ := f3_.symm; clear f1_ f2_ f3_; subst f4_; subst f5_))
              obtain ⟨Ao65, co65, eo65⟩ := Kd.V_slice HO_352001.out
              (first | subst eo65 | (injection eo65 with f1_ f2_ f3_; have f4_ := f1_.symm; have f5_ := f3_.symm; clear f1_ f2_ f3_; subst f4_; subst f5_))
              refine hK.out _ _ ⟨(blk_cell BK350.out 0).trans rfl, (blk_cell BK350.out 1).trans rfl, (blk_cell BK351.out 0).trans rfl, (blk_cell BK351.out 1).trans rfl⟩ (fun hHeld => ?_)
              clear hK K
              refine norm_ (a' := ?_) ?_ ?_
              rotate_left
              ·show Act.put _ (some 76) _ = _
               simp only [Act.put, List.setIfInBounds_toArray, List.set_cons_zero, List.set_cons_succ, i64_w, i32_w]
               rfl
              refine one_ (i := 7) (N := some 78) #[true, true, true, true, true, true, true, true, false, false] rfl rfl (one_of HT_.out (by kernel_rfl)) (by decide) (fun K hK => ?_)
              refine goes_ Try.func24 (by kernel_rfl) rfl #[.agg #[.int .i64 t366, .slice Ao64 t367.length co64], .agg #[.int .i64 x352000_32, .slice Ao65 x352001_32.length co65]] (by rfl) rfl rfl (by (try simp only [List.map_toArray, List.map_cons, List.map_nil]); first | done | rfl | (simp only [List.length_drop, List.length_take]; rfl)) ?_
              with_reducible refine (haywainref11_Same.calls kj32 t366 _ _ t367 x352000_32 _ _ x352001_32 true _ ?side1 ?side2 ?side3 ?side4 A60.out).mono ?_
              (case side1 => repeat (first | exact (Kd.R_reads' HO369.out).2.2 | (with_reducible refine Kd.C_alloc ?_ _) | (with_reducible refine Kd.C_drewN ?_ _) | (with_reducible refine Kd.C_drew ?_)))
              (case side2 => exact (Kd.R_reads' HO369.out).2.1)
              (case side3 => repeat (first | exact (Kd.V_reads' HO_352001.out).2.2 | (with_reducible refine Kd.C_alloc ?_ _) | (with_reducible refine Kd.C_drewN ?_ _) | (with_reducible refine Kd.C_drew ?_)))
              (case side4 => exact (Kd.V_reads' HO_352001.out).2.1)
              rintro e w66 ⟨rfl, hb⟩
              refine ⟨_, rfl, ?_⟩
              have n0_ := Aside0.mk (Kd.V_below (by (with_reducible repeat (first | apply Kd.V_alloc | apply Kd.V_drewN | apply Kd.V_drew)); exact HO_334001.out) hb)
              have n1_ := Aside0.mk (Kd.V_below (by (with_reducible repeat (first | apply Kd.V_alloc | apply Kd.V_drewN | apply Kd.V_drew)); exact HO_341001.out) hb)
              have n2_ := Aside0.mk (Kd.R_below (by (with_reducible repeat (first | apply Kd.R_alloc | apply Kd.R_drewN | apply Kd.R_drew)); exact HO_351001.out) hb)
              have n3_ := Aside0.mk (Kd.V_below (by (with_reducible repeat (first | apply Kd.V_alloc | apply Kd.V_drewN | apply Kd.V_drew)); exact HO_352001.out) hb)
              have n4_ := Aside0.mk (Kd.R_below (by (with_reducible repeat (first | apply Kd.R_alloc | apply Kd.R_drewN | apply Kd.R_drew)); exact HO369.out) hb)
              have n5_ := Aside0.mk (blk_below (g := gb333) (o := .cells #[.int .i64 x334000_1, .slice Ao34 x334001_1.length co34] 24 (0, 0)) (by (with_reducible repeat (first | refine blk_drewN ?_ _ | refine blk_drew ?_ | refine blk_alloc ?_ _)); exact BK333.out) hb)
              have n6_ := Aside0.mk (blk_below (g := gb340) (o := .cells #[.int .i64 x341000_1, u341001] 29 (0, 0)) (by (with_reducible repeat (first | refine blk_drewN ?_ _ | refine blk_drew ?_ | refine blk_alloc ?_ _)); exact BK340.out) hb)
              have n7_ := Aside0.mk (blk_below (g := gb350) (o := .cells #[.int .i64 t345, .slice Ao40 t346.length co40] 24 (0, 0)) (by (with_reducible repeat (first | refine blk_drewN ?_ _ | refine blk_drew ?_ | refine blk_alloc ?_ _)); exact BK350.out) hb)
              have n8_ := Aside0.mk (blk_below (g := gb351) (o := .cells #[.int .i64 x352000_32, .slice Ao65 x352001_32.length co65] 29 (0, 0)) (by (with_reducible repeat (first | refine blk_drewN ?_ _ | refine blk_drew ?_ | refine blk_alloc ?_ _)); exact BK351.out) hb)
              have n9_ := Aside0.mk (below_step (by repeat (first | (with_reducible first | exact HB.out | apply below_alloc | apply pw_below_drewN | apply below_drew1 | refine below_set ?_ GE333.out | refine below_set ?_ GE340.out | refine below_set ?_ GE350.out | refine below_set ?_ GE351.out) | exact HB.out)) hb)
              clear HO_334001
              clear HO_341001
              clear HO_351001
              clear HO_352001
              clear HO369
              clear BK333
              clear BK340
              clear BK350
              clear BK351
              clear HB
              have HO_334001 := n0_
              have HO_341001 := n1_
              have HO_351001 := n2_
              have HO_352001 := n3_
              have HO369 := n4_
              have BK333 := n5_
              have BK340 := n6_
              have BK350 := n7_
              have BK351 := n8_
              have HB := n9_
              clear n0_ n1_ n2_ n3_ n4_ n5_ n6_ n7_ n8_ n9_
              (try clear hb)
              (try clear hb2)
              (try clear hk)
              (try clear hi)
              refine hK.out _ _ ⟨(blk_cell BK350.out 0).trans rfl, (blk_cell BK350.out 1).trans rfl, (blk_cell BK351.out 0).trans rfl, (blk_cell BK351.out 1).trans rfl⟩ (fun hHeld => ?_)
              clear hK K
              refine norm_ (a' := ?_) ?_ ?_
              rotate_left
              ·show Act.put _ (some 78) _ = _
               simp only [Act.put, List.setIfInBounds_toArray, List.set_cons_zero, List.set_cons_succ, i64_w, i32_w]
               rfl
              refine pure_ (i := 8) (N := some 79) (v := ?_) (a' := ?_) #[true, true, true, true, true, true, true, true, true, false] rfl rfl (any_of HT_.out (by kernel_rfl)) (fun _ _ _ h => h) (Or.inl ⟨by rfl, ?_⟩) ?_ ?_
              rotate_left
              ·intro w'
               go_simp
               with_reducible rfl
              rotate_left
              ·simp only [Act.put, List.setIfInBounds_toArray, List.set_cons_zero, List.set_cons_succ, i64_w, i32_w]
               rfl
              refine pure_ (i := 9) (N := some 80) (v := ?_) (a' := ?_) #[true, true, true, true, true, true, true, true, true, true] rfl rfl (any_of HT_.out (by kernel_rfl)) (fun _ _ _ h => h) (Or.inl ⟨by rfl, ?_⟩) ?_ ?_
              rotate_left
              ·intro w'
               go_simp
               with_reducible rfl
              rotate_left
              ·simp only [Act.put, List.setIfInBounds_toArray, List.set_cons_zero, List.set_cons_succ, i64_w, i32_w]
               rfl
              refine done_ (done_of HT_.out (by kernel_rfl)) ?_
              try go_wp2
              have n0_ := Aside0.mk (Kd.V_drew HO_334001.out)
              have n1_ := Aside0.mk (Kd.V_drew HO_341001.out)
              have n2_ := Aside0.mk (Kd.R_drew HO_351001.out)
              have n3_ := Aside0.mk (Kd.V_drew HO_352001.out)
              have n4_ := Aside0.mk (Kd.R_drew HO369.out)
              have n5_ := Aside0.mk (blk_drew BK333.out)
              have n6_ := Aside0.mk (blk_drew BK340.out)
              have n7_ := Aside0.mk (blk_drew BK350.out)
              have n8_ := Aside0.mk (blk_drew BK351.out)
              have n9_ := Aside0.mk (below_drew1 HB.out)
              clear HO_334001
              clear HO_341001
              clear HO_351001
              clear HO_352001
              clear HO369
              clear BK333
              clear BK340
              clear BK350
              clear BK351
              clear HB
              have HO_334001 := n0_
              have HO_341001 := n1_
              have HO_351001 := n2_
              have HO_352001 := n3_
              have HO369 := n4_
              have BK333 := n5_
              have BK340 := n6_
              have BK350 := n7_
              have BK351 := n8_
              have HB := n9_
              clear n0_ n1_ n2_ n3_ n4_ n5_ n6_ n7_ n8_ n9_
              refine start_ (n := 4) (S := fun w' => w'.cell? ⟨gb350, 0, none⟩ = some (.int .i64 t345) ∧ w'.cell? ⟨gb350, 1, none⟩ = some (.slice Ao40 t346.length co40) ∧ w'.cell? ⟨gb351, 0, none⟩ = some (.int .i64 x352000_32) ∧ w'.cell? ⟨gb351, 1, none⟩ = some (.slice Ao65 x352001_32.length co65)) (ds := []) #[false, false, false, false] (by kernel_rfl) rfl rfl ⟨(blk_cell BK350.out 0).trans rfl, (blk_cell BK350.out 1).trans rfl, (blk_cell BK351.out 0).trans rfl, (blk_cell BK351.out 1).trans rfl⟩ (fun hHeld => ?_)
              generalize w66.drew = w67 at HO_334001 HO_341001 HO_351001 HO_352001 HO369 BK333 BK340 BK350 BK351 HB hHeld ⊢
              refine take_ (i := 0) (N := some 81) (v := ?_) (a' := ?_) #[true, false, false, false] rfl rfl (by kernel_rfl) (fun _ _ _ h => h) (Or.inl ⟨by rfl, ?_⟩) hHeld ?_ ?_
              rotate_left
              ·rintro w' ⟨s0, s1, s2, s3⟩
               go_simp
               with_reducible rfl
              rotate_left
              ·simp only [Act.put, List.setIfInBounds_toArray, List.set_cons_zero, List.set_cons_succ, i64_w, i32_w]
               rfl
              refine take_ (i := 1) (N := some 82) (v := ?_) (a' := ?_) #[true, true, false, false] rfl rfl (by kernel_rfl) (fun _ _ _ h => h) (Or.inl ⟨by rfl, ?_⟩) hHeld ?_ ?_
              rotate_left
              ·rintro w' ⟨s0, s1, s2, s3⟩
               go_simp
               with_reducible rfl
              rotate_left
              ·simp only [Act.put, List.setIfInBounds_toArray, List.set_cons_zero, List.set_cons_succ, i64_w, i32_w]
               rfl
              refine one_ (i := 2) (N := none) #[true, true, true, false] rfl rfl (by kernel_rfl) (by decide) (fun K hK => ?_)
              have hs68 : w67.cell? ⟨gb333, 0, none⟩ = some (.int .i64 x334000_1) := (blk_cell BK333.out 0).trans rfl
              have hfs68 := blk_frozen BK333.out 0
              have hns68_1 := NB340_333.out
              have hns68_2 := NB350_333.out
              have hns68_3 := NB351_333.out
              have hms68_1 := NB333_340.out
              have hms68_2 := NB333_350.out
              have hms68_3 := NB333_351.out
              have hs69 : w67.cell? ⟨gb333, 1, none⟩ = some (.slice Ao34 x334001_1.length co34) := (blk_cell BK333.out 1).trans rfl
              have hfs69 := blk_frozen BK333.out 1
              have hns69_1 := NB340_333.out
              have hns69_2 := NB350_333.out
              have hns69_3 := NB351_333.out
              have hms69_1 := NB333_340.out
              have hms69_2 := NB333_350.out
              have hms69_3 := NB333_351.out
              refine skip_ (w1 := ?_) (by rfl) rfl ?_ ?_
              rotate_left
              ·go_simp
               rfl
              refine hK.out _ _ ⟨((cell_far (p := ⟨gb333, _, none⟩) NB350_333.out _).trans (((cell_far (p := ⟨gb333, _, none⟩) NB350_333.out _).trans (hHeld.1)))), ((cell_far (p := ⟨gb333, _, none⟩) NB350_333.out _).trans (((cell_far (p := ⟨gb333, _, none⟩) NB350_333.out _).trans (hHeld.2.1)))), ((cell_far (p := ⟨gb333, _, none⟩) NB351_333.out _).trans (((cell_far (p := ⟨gb333, _, none⟩) NB351_333.out _).trans (hHeld.2.2.1)))), ((cell_far (p := ⟨gb333, _, none⟩) NB351_333.out _).trans (((cell_far (p := ⟨gb333, _, none⟩) NB351_333.out _).trans (hHeld.2.2.2))))⟩ (fun hHeld => ?_)
              clear hK K
              refine one_ (i := 3) (N := none) #[true, true, true, true] rfl rfl (by kernel_rfl) (by decide) (fun K hK => ?_)
              have hs70 : w67.cell? ⟨gb340, 0, none⟩ = some (.int .i64 x341000_1) := (blk_cell BK340.out 0).trans rfl
              have hfs70 := blk_frozen BK340.out 0
              have hns70_0 := NB333_340.out
              have hns70_2 := NB350_340.out
              have hns70_3 := NB351_340.out
              have hms70_0 := NB340_333.out
              have hms70_2 := NB340_350.out
              have hms70_3 := NB340_351.out
              have hs71 : w67.cell? ⟨gb340, 1, none⟩ = some (u341001) := (blk_cell BK340.out 1).trans rfl
              have hfs71 := blk_frozen BK340.out 1
              have hns71_0 := NB333_340.out
              have hns71_2 := NB350_340.out
              have hns71_3 := NB351_340.out
              have hms71_0 := NB340_333.out
              have hms71_2 := NB340_350.out
              have hms71_3 := NB340_351.out
              refine skip_ (w1 := ?_) (by rfl) rfl ?_ ?_
              rotate_left
              ·go_simp
               rfl
              refine hK.out _ _ ⟨((cell_far (p := ⟨gb340, _, none⟩) NB350_340.out _).trans (((cell_far (p := ⟨gb340, _, none⟩) NB350_340.out _).trans (hHeld.1)))), ((cell_far (p := ⟨gb340, _, none⟩) NB350_340.out _).trans (((cell_far (p := ⟨gb340, _, none⟩) NB350_340.out _).trans (hHeld.2.1)))), ((cell_far (p := ⟨gb340, _, none⟩) NB351_340.out _).trans (((cell_far (p := ⟨gb340, _, none⟩) NB351_340.out _).trans (hHeld.2.2.1)))), ((cell_far (p := ⟨gb340, _, none⟩) NB351_340.out _).trans (((cell_far (p := ⟨gb340, _, none⟩) NB351_340.out _).trans (hHeld.2.2.2))))⟩ (fun hHeld => ?_)
              clear hK K
              refine done_ (by kernel_rfl) ?_
              try go_wp2
              go_roundg kj32
              case measure => have := HK1.out; have := HJ26.out; have := HJ32.out; omega
              case rel => exact ⟨(wrap64 (x6_1 + 1)), (t345), (t346), (x352000_32), (x352001_32), (.slice Ao40 t346.length co40), (.slice Ao65 x352001_32.length co65), (by first | rfl | (simp; done) | (simp [*]; done)), H', ⟨by have := HK1.out; have := HJ26.out; have := HJ32.out; omega⟩, ⟨Kd.V_mono (Kd.R_V (by (with_reducible repeat (first | apply Kd.R_alloc | apply Kd.R_drewN | apply Kd.R_drew)); exact (Kd.R_far (p := ⟨gb340, 1, none⟩) (Kd.R_far (p := ⟨gb340, 0, none⟩) (Kd.R_far (p := ⟨gb333, 1, none⟩) (Kd.R_far (p := ⟨gb333, 0, none⟩) (Kd.R_types (Kd.R_types (Kd.R_types (Kd.R_types HO_351001.out BK333.out (by decide)) BK340.out (by decide)) BK333.out (by decide)) BK340.out (by decide)) (fun _ hk => hk.1.2) (.int .i64 t345)) (fun _ hk => hk.1.2) (.slice Ao40 t346.length co40)) (fun _ hk => hk.2) (.int .i64 x352000_32)) (fun _ hk => hk.2) (.slice Ao65 x352001_32.length co65)))) (fun k_ hk => by first | exact ⟨(.inr (hk.1.1.1.1)), ⟨hk.1.1.1.2, hk.1.1.2⟩⟩ | exact ⟨(.inr (hk.1)), hk.2⟩ | exact (.inr (hk)))⟩, ⟨by (with_reducible repeat (first | apply Kd.V_alloc | apply Kd.V_drewN | apply Kd.V_drew)); exact Kd.V_mono (Kd.V_far (p := ⟨gb340, 1, none⟩) (Kd.V_far (p := ⟨gb340, 0, none⟩) (Kd.V_far (p := ⟨gb333, 1, none⟩) (Kd.V_far (p := ⟨gb333, 0, none⟩) (Kd.V_mono (Kd.V_mono HO_352001.out (fun k_ hk => (⟨hk, hk.1.2.2.1⟩ : _ ∧ k_ ≠ gb333))) (fun k_ hk => (⟨hk, hk.1.1.2.2.2.1⟩ : _ ∧ k_ ≠ gb340))) (fun _ hk => hk.1.2) (.int .i64 t345)) (fun _ hk => hk.1.2) (.slice Ao40 t346.length co40)) (fun _ hk => hk.2) (.int .i64 x352000_32)) (fun _ hk => hk.2) (.slice Ao65 x352001_32.length co65)) (fun _ hk => ⟨hk.1.1.1.1, ⟨hk.1.1.1.2.2.1, hk.1.1.1.2.2.2.1⟩⟩)⟩, ⟨by (with_reducible repeat (first | refine blk_drewN ?_ _ | refine blk_drew ?_ | refine blk_alloc ?_ _)); refine blk_far ?_ NB333_340.out _; (with_reducible repeat (first | refine blk_drewN ?_ _ | refine blk_drew ?_ | refine blk_alloc ?_ _)); refine blk_far ?_ NB333_340.out _; (with_reducible repeat (first | refine blk_drewN ?_ _ | refine blk_drew ?_ | refine blk_alloc ?_ _)); refine blk_put (cs := #[.int .i64 t345, .slice Ao34 x334001_1.length co34]) ?_ 1 _ rfl; (with_reducible repeat (first | refine blk_drewN ?_ _ | refine blk_drew ?_ | refine blk_alloc ?_ _)); refine blk_put (cs := #[.int .i64 x334000_1, .slice Ao34 x334001_1.length co34]) ?_ 0 _ rfl; (with_reducible repeat (first | refine blk_drewN ?_ _ | refine blk_drew ?_ | refine blk_alloc ?_ _)); exact BK333.out⟩, ⟨by (with_reducible repeat (first | refine blk_drewN ?_ _ | refine blk_drew ?_ | refine blk_alloc ?_ _)); refine blk_put (cs := #[.int .i64 x352000_32, u341001]) ?_ 1 _ rfl; (with_reducible repeat (first | refine blk_drewN ?_ _ | refine blk_drew ?_ | refine blk_alloc ?_ _)); refine blk_put (cs := #[.int .i64 x341000_1, u341001]) ?_ 0 _ rfl; (with_reducible repeat (first | refine blk_drewN ?_ _ | refine blk_drew ?_ | refine blk_alloc ?_ _)); refine blk_far ?_ NB340_333.out _; (with_reducible repeat (first | refine blk_drewN ?_ _ | refine blk_drew ?_ | refine blk_alloc ?_ _)); refine blk_far ?_ NB340_333.out _; (with_reducible repeat (first | refine blk_drewN ?_ _ | refine blk_drew ?_ | refine blk_alloc ?_ _)); exact BK340.out⟩, ⟨by repeat (first | (with_reducible first | exact HB.out | apply below_alloc | apply pw_below_drewN | apply below_drew1 | refine below_set ?_ GE333.out | refine below_set ?_ GE340.out | refine below_set ?_ GE350.out | refine below_set ?_ GE351.out) | exact HB.out)⟩⟩
             ·replace c61 := Bool.eq_false_iff.mpr c61
              subst c61
              have H1 : (none) = some r := by rw [if_neg (show ¬ (false = true) by decide)] at H; exact H
              clear H
              have H := H1
              clear H1
              exact absurd H (by simp)
            ·rw [if_neg c58] at H
             exact absurd H (by simp)
         ·rw [if_neg c31] at H
          exact absurd H (by simp)
        ·rw [if_neg c30] at H
         exact absurd H (by simp)
       ·replace c29 := Bool.eq_false_iff.mpr c29
        subst c29
        have H1 : ((haywainlaw11_knows.f kj26).bind fun t343 => (some t343)) = some r := by rw [if_neg (show ¬ (false = true) by decide)] at H; exact H
        clear H
        have H := H1
        clear H1
        replace H := Option.bind_eq_some_iff.mp H
        obtain ⟨t343, A720, H⟩ := H
        replace H : (some t343) = some r := H
        have A72 := Aside0.mk A720
        clear A720
        obtain rfl := Option.some.inj H
        go_wp2_with (first | ((with_reducible refine gate_callee (f := 10) rfl ?_); refine goesL_ (some 83) rfl rfl Try.func10 (by kernel_rfl) rfl #[] rfl (by (try simp only [List.map_toArray, List.map_cons, List.map_nil]); first | done | rfl | (simp only [List.length_drop, List.length_take]; rfl)) ?_; (with_reducible refine (haywainlaw11_knows.calls kj26  t343 _ A72.out).mono ?_); rintro e w73 ⟨rfl, hb⟩; refine ⟨_, rfl, ?_⟩; have n0_ := Aside0.mk (Kd.V_below (by (with_reducible repeat (first | apply Kd.V_alloc | apply Kd.V_drewN | apply Kd.V_drew)); exact HO_334001.out) hb); have n1_ := Aside0.mk (Kd.V_below (by (with_reducible repeat (first | apply Kd.V_alloc | apply Kd.V_drewN | apply Kd.V_drew)); exact HO_341001.out) hb); have n2_ := Aside0.mk (blk_below (g := gb333) (o := .cells #[.int .i64 x334000_1, u334001] 24 (0, 0)) (by (with_reducible repeat (first | refine blk_drewN ?_ _ | refine blk_drew ?_ | refine blk_alloc ?_ _)); exact BK333.out) hb); have n3_ := Aside0.mk (blk_below (g := gb340) (o := .cells #[.int .i64 x341000_1, u341001] 29 (0, 0)) (by (with_reducible repeat (first | refine blk_drewN ?_ _ | refine blk_drew ?_ | refine blk_alloc ?_ _)); exact BK340.out) hb); have n4_ := Aside0.mk (below_step (by repeat (first | (with_reducible first | exact HB.out | apply below_alloc | apply pw_below_drewN | apply below_drew1 | refine below_set ?_ GE333.out | refine below_set ?_ GE340.out) | exact HB.out)) hb); clear HO_334001; clear HO_341001; clear BK333; clear BK340; clear HB; have HO_334001 := n0_; have HO_341001 := n1_; have BK333 := n2_; have BK340 := n3_; have HB := n4_; clear n0_ n1_ n2_ n3_ n4_; (try clear hb); (try clear hb2); (try clear hk); (try clear hi)))
        go_ret
        exact ⟨by first | rfl | (simp [errW_none, errW_some] <;> rfl) | (simp [*, errW_none, errW_some] <;> rfl), by repeat (first | (with_reducible first | exact HB.out | apply below_alloc | apply pw_below_drewN | apply below_drew1 | refine below_set ?_ GE333.out | refine below_set ?_ GE340.out) | exact HB.out)⟩

def okT59_ViewPlays (x : S59) : Prop := ((Lit.int .i64 x.f0).wf = true) ∧ ((Lit.int .i64 x.f1).wf = true)
def okT24_ViewPlays (x : S24) : Prop := ((Lit.int .i64 x.f0).wf = true) ∧ ((x.f1.length ≤ maxLen ∧ x.f1.length * 16 ≤ 140737488351232 ∧ ∀ a ∈ x.f1, okT59_ViewPlays a))
def okT46_ViewPlays (x : S46) : Prop := ((Lit.int .i64 x.f0).wf = true) ∧ ((Lit.int .i64 x.f1).wf = true) ∧ ((Lit.int .i64 x.f2).wf = true)
/-- THE ONE PURE STATEMENT of haywainlaw11_ViewPlays: yours. -/
def haywainlaw11_ViewPlays.Pure : Prop := ∀ (a0_0 : Int) (l0_1 : List (S59)) (l1 : List (S46)), (Lit.int .i64 a0_0).wf = true → (l0_1.length ≤ maxLen ∧ l0_1.length * 16 ≤ 140737488351232 ∧ ∀ a ∈ l0_1, okT59_ViewPlays a) → (l1.length ≤ maxLen ∧ l1.length * 24 ≤ 140737488351232 ∧ ∀ a ∈ l1, okT46_ViewPlays a) → ∃ k, haywainlaw11_ViewPlays.f k a0_0 l0_1 l1 = some true

end Go.Proofs.Ytgfaejkgkhdihaa.PView
