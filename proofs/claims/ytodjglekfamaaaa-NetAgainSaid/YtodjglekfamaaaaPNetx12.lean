-- Printed for this claim by a turned copy of the print (wip/tools/patch.py); a text of this session, not of print.sh.
import Derived.Test.YtodjglekfamaaaaPNetx0
import Derived.Test.YtodjglekfamaaaaPNetx1
import Derived.Test.YtodjglekfamaaaaPNetx3
import Derived.Test.YtodjglekfamaaaaPNetx4
import Derived.Test.YtodjglekfamaaaaPNetx5
import Derived.Test.YtodjglekfamaaaaPNetx6
import Derived.Test.YtodjglekfamaaaaPNetx7
namespace Go.Proofs.Ytodjglekfamaaaa.PNet
open Go.RowKit Go.Proofs.YtodjglekfamaaaaW.PrintWords Go.Proofs.YtodjglekfamaaaaW.PrintLast Go.Proofs.YtodjglekfamaaaaW.PrintMore
attribute [local go_sem] max2_int min2_int max_two min_two max_three min_three max_four min_four   -- for this text's walks alone
set_option linter.unusedVariables false
set_option linter.unusedSimpArgs false

attribute [local go_sem high] eqA23
/-! ### haywainlaw22_NetAgain: function 7 -/
mutual
def haywainlaw22_NetAgain.j0 : Nat → Int → Bool → List (S23) → Int → Int → Int → Int → Int → Int → Int → ByteArray → Option (Bool)
 | 0, _, _, _, _, _, _, _, _, _, _, _ => none
 | k + 1, x1, x29, x471000, x472000, x472001, x472002, x472003, x472004, x472005, x472006, x472007 => if x29 = true then ((haywainlaw22_knows.f k).bind fun t477 => (some t477)) else ((net_Twice.f k x471000 x1).bind fun bt478 => (if bt478.2 = 0 then ((net_Give.f k bt478.1 (wrap64 ((bt478.1.length : Int) - 1))).bind fun bt483 => (if bt483.2.2.2.2.2.2.2.2.2 = 0 then (if x1 < 0 then (none) else (if x1 ≥ (x471000.length : Int) then (none) else (if 0 ≤ x1 then (if x1 < (x471000.length : Int) then (if (!(bt483.2.1 == ((rd_T23 x471000 x1).f0)) || (!(bt483.2.2.1 == ((rd_T23 x471000 x1).f1)) || (!(bt483.2.2.2.1 == ((rd_T23 x471000 x1).f2)) || (!(bt483.2.2.2.2.1 == ((rd_T23 x471000 x1).f3)) || (!(bt483.2.2.2.2.2.1 == ((rd_T23 x471000 x1).f4)) || (!(bt483.2.2.2.2.2.2.1 == ((rd_T23 x471000 x1).f5)) || (!(bt483.2.2.2.2.2.2.2.1 == ((rd_T23 x471000 x1).f6)) || (!(bt483.2.2.2.2.2.2.2.2.1.toList == (((rd_T23 x471000 x1).f7).toList)))))))))) = true then (none) else ((haywainlaw22_As.f k bt483.1).bind fun t498 => ((haywainlaw22_As.f k x471000).bind fun t501 => ((haywainref22_Same.f k t498 t501).bind fun t504 => (if t504 = true then (haywainlaw22_NetAgain.j1 k x471000 x472000 x472001 x472002 x472003 x472004 x472005 x472006 x472007) else (none)))))) else (none)) else (none)))) else (none))) else (haywainlaw22_NetAgain.j1 k x471000 x472000 x472001 x472002 x472003 x472004 x472005 x472006 x472007)))
def haywainlaw22_NetAgain.j1 : Nat → List (S23) → Int → Int → Int → Int → Int → Int → Int → ByteArray → Option (Bool)
 | 0, _, _, _, _, _, _, _, _, _ => none
 | k + 1, x471000, x472000, x472001, x472002, x472003, x472004, x472005, x472006, x472007 => (net_Send.f k x471000 (([(⟨x472000, x472001, x472002, x472003, x472004, x472005, x472006, x472007⟩ : S23)] : List (S23)))).bind fun bt508 => (if bt508.2 = 0 then ((haywainlaw22_As.f k bt508.1).bind fun t513 => ((haywainlaw22_As.f k x471000).bind fun t516 => ((haywainref22_Same.f k t513 t516).bind fun t519 => (if t519 = true then ((haywainlaw22_knows.f k).bind fun t520 => (some t520)) else (none))))) else (if bt508.2 = 1 then (if (bt508.1.length : Int) = (wrap64 ((x471000.length : Int) + 1)) then (if 0 ≤ (x471000.length : Int) then (if (x471000.length : Int) < (bt508.1.length : Int) then (if (((rd_T23 bt508.1 (x471000.length : Int)).f0) == x472000 && (((rd_T23 bt508.1 (x471000.length : Int)).f1) == x472001 && (((rd_T23 bt508.1 (x471000.length : Int)).f2) == x472002 && (((rd_T23 bt508.1 (x471000.length : Int)).f3) == x472003 && (((rd_T23 bt508.1 (x471000.length : Int)).f4) == x472004 && (((rd_T23 bt508.1 (x471000.length : Int)).f5) == x472005 && (((rd_T23 bt508.1 (x471000.length : Int)).f6) == x472006 && ((((rd_T23 bt508.1 (x471000.length : Int)).f7).toList) == x472007.toList)))))))) = true then (if (x471000.length : Int) ≤ (bt508.1.length : Int) then ((haywainlaw22_As.f k (bt508.1.take ((x471000.length : Int) : Int).toNat)).bind fun t526 => ((haywainlaw22_As.f k x471000).bind fun t529 => ((haywainref22_Same.f k t526 t529).bind fun t532 => (if t532 = true then ((haywainlaw22_knows.f k).bind fun t533 => (some t533)) else (none))))) else (none)) else (none)) else (none)) else (none)) else (none)) else (none)))
end
def haywainlaw22_NetAgain.f (k : Nat) (l0_0 : List (S23)) (a1 : Int) (a2_0 : Int) (a2_1 : Int) (a2_2 : Int) (a2_3 : Int) (a2_4 : Int) (a2_5 : Int) (a2_6 : Int) (a2_7 : ByteArray) : Option (Bool) := (haywainlaw22_great.f k l0_0).bind fun t472 => (if t472 = true then (haywainlaw22_NetAgain.j0 k a1 true l0_0 a2_0 a2_1 a2_2 a2_3 a2_4 a2_5 a2_6 a2_7) else (if (a2_7.size : Int) > 10000 then (haywainlaw22_NetAgain.j0 k a1 true l0_0 a2_0 a2_1 a2_2 a2_3 a2_4 a2_5 a2_6 a2_7) else ((haywainlaw22_As.f k l0_0).bind fun t473 => ((haywainref22_Right.f k t473).bind fun t476 => (haywainlaw22_NetAgain.j0 k a1 (!t476) l0_0 a2_0 a2_1 a2_2 a2_3 a2_4 a2_5 a2_6 a2_7)))))
theorem haywainlaw22_NetAgain.mono_l : ∀ k, (∀ y0 y1 y2 y3 y4 y5 y6 y7 y8 y9 y10, LeO (haywainlaw22_NetAgain.j0 k y0 y1 y2 y3 y4 y5 y6 y7 y8 y9 y10) (haywainlaw22_NetAgain.j0 (k + 1) y0 y1 y2 y3 y4 y5 y6 y7 y8 y9 y10)) ∧ (∀ y0 y1 y2 y3 y4 y5 y6 y7 y8, LeO (haywainlaw22_NetAgain.j1 k y0 y1 y2 y3 y4 y5 y6 y7 y8) (haywainlaw22_NetAgain.j1 (k + 1) y0 y1 y2 y3 y4 y5 y6 y7 y8))
 | 0 => ⟨fun _ _ _ _ _ _ _ _ _ _ _ r h => by simp [haywainlaw22_NetAgain.j0] at h, fun _ _ _ _ _ _ _ _ _ r h => by simp [haywainlaw22_NetAgain.j1] at h⟩
 | k + 1 => by
  obtain ⟨ih0, ih1⟩ := haywainlaw22_NetAgain.mono_l k
  refine ⟨?_, ?_⟩
  ·intro y0 y1 y2 y3 y4 y5 y6 y7 y8 y9 y10
   unfold haywainlaw22_NetAgain.j0
   repeat' first
   | (with_reducible exact ih0 _ _ _ _ _ _ _ _ _ _ _)
   | (with_reducible exact ih1 _ _ _ _ _ _ _ _ _)
   | (with_reducible exact haywainlaw22_As.mono _ _)
   | (with_reducible exact haywainlaw22_great.mono _ _)
   | (with_reducible exact haywainlaw22_knows.mono _)
   | (with_reducible exact haywainref22_Right.mono _ _)
   | (with_reducible exact haywainref22_Same.mono _ _ _)
   | (with_reducible exact net_Give.mono _ _ _)
   | (with_reducible exact net_Send.mono _ _ _)
   | (with_reducible exact net_Twice.mono _ _ _)
   | (with_reducible exact LeO.refl _)
   | (with_reducible exact LeO.none _)
   | (with_reducible refine LeO.ite ?_ ?_)
   | (with_reducible refine LeO.bind ?_ (fun _ => ?_))
   | exact ih0 _ _ _ _ _ _ _ _ _ _ _
   | exact ih1 _ _ _ _ _ _ _ _ _
   | exact haywainlaw22_As.mono _ _
   | exact haywainlaw22_great.mono _ _
   | exact haywainlaw22_knows.mono _
   | exact haywainref22_Right.mono _ _
   | exact haywainref22_Same.mono _ _ _
   | exact net_Give.mono _ _ _
   | exact net_Send.mono _ _ _
   | exact net_Twice.mono _ _ _
   | exact LeO.none _
   | refine LeO.ite ?_ ?_
   | refine LeO.bind ?_ (fun _ => ?_)
  ·intro y0 y1 y2 y3 y4 y5 y6 y7 y8
   unfold haywainlaw22_NetAgain.j1
   repeat' first
   | (with_reducible exact ih0 _ _ _ _ _ _ _ _ _ _ _)
   | (with_reducible exact ih1 _ _ _ _ _ _ _ _ _)
   | (with_reducible exact haywainlaw22_As.mono _ _)
   | (with_reducible exact haywainlaw22_great.mono _ _)
   | (with_reducible exact haywainlaw22_knows.mono _)
   | (with_reducible exact haywainref22_Right.mono _ _)
   | (with_reducible exact haywainref22_Same.mono _ _ _)
   | (with_reducible exact net_Give.mono _ _ _)
   | (with_reducible exact net_Send.mono _ _ _)
   | (with_reducible exact net_Twice.mono _ _ _)
   | (with_reducible exact LeO.refl _)
   | (with_reducible exact LeO.none _)
   | (with_reducible refine LeO.ite ?_ ?_)
   | (with_reducible refine LeO.bind ?_ (fun _ => ?_))
   | exact ih0 _ _ _ _ _ _ _ _ _ _ _
   | exact ih1 _ _ _ _ _ _ _ _ _
   | exact haywainlaw22_As.mono _ _
   | exact haywainlaw22_great.mono _ _
   | exact haywainlaw22_knows.mono _
   | exact haywainref22_Right.mono _ _
   | exact haywainref22_Same.mono _ _ _
   | exact net_Give.mono _ _ _
   | exact net_Send.mono _ _ _
   | exact net_Twice.mono _ _ _
   | exact LeO.none _
   | refine LeO.ite ?_ ?_
   | refine LeO.bind ?_ (fun _ => ?_)
theorem haywainlaw22_NetAgain.mono : ∀ a0 a1 a2 a3 a4 a5 a6 a7 a8 a9 k, LeO (haywainlaw22_NetAgain.f k a0 a1 a2 a3 a4 a5 a6 a7 a8 a9) (haywainlaw22_NetAgain.f (k + 1) a0 a1 a2 a3 a4 a5 a6 a7 a8 a9) := by
 intro a0 a1 a2 a3 a4 a5 a6 a7 a8 a9 k
 obtain ⟨ih0, ih1⟩ := haywainlaw22_NetAgain.mono_l k
 unfold haywainlaw22_NetAgain.f
 repeat' first
   | (with_reducible exact ih0 _ _ _ _ _ _ _ _ _ _ _)
   | (with_reducible exact ih1 _ _ _ _ _ _ _ _ _)
   | (with_reducible exact haywainlaw22_As.mono _ _)
   | (with_reducible exact haywainlaw22_great.mono _ _)
   | (with_reducible exact haywainlaw22_knows.mono _)
   | (with_reducible exact haywainref22_Right.mono _ _)
   | (with_reducible exact haywainref22_Same.mono _ _ _)
   | (with_reducible exact net_Give.mono _ _ _)
   | (with_reducible exact net_Send.mono _ _ _)
   | (with_reducible exact net_Twice.mono _ _ _)
   | (with_reducible exact LeO.refl _)
   | (with_reducible exact LeO.none _)
   | (with_reducible refine LeO.ite ?_ ?_)
   | (with_reducible refine LeO.bind ?_ (fun _ => ?_))
   | exact ih0 _ _ _ _ _ _ _ _ _ _ _
   | exact ih1 _ _ _ _ _ _ _ _ _
   | exact haywainlaw22_As.mono _ _
   | exact haywainlaw22_great.mono _ _
   | exact haywainlaw22_knows.mono _
   | exact haywainref22_Right.mono _ _
   | exact haywainref22_Same.mono _ _ _
   | exact net_Give.mono _ _ _
   | exact net_Send.mono _ _ _
   | exact net_Twice.mono _ _ _
   | exact LeO.none _
   | refine LeO.ite ?_ ?_
   | refine LeO.bind ?_ (fun _ => ?_)
def haywainlaw22_NetAgain.T6 : Bool × List (List Nat × List Nat) := (true, [([], []), ([0], [0]), ([1], [1]), ([2], [2]), ([3, 2], [2, 3]), ([2, 4], [2, 4]), ([5, 2], [5]), ([6], [6]), ([6], [6]), ([8, 6], [6, 8]), ([9, 6], [6, 9]), ([7, 10, 6], [6, 7, 10]), ([6, 11], [6, 11]), ([12, 6], [12]), ([13], [13]), ([13], [13]), ([15, 13], [13, 15]), ([13], [13]), ([16, 17, 13], [13, 16, 17]), ([18, 13], [13, 18]), ([14, 19, 13], [13, 14, 19]), ([13, 20], [13, 20]), ([21, 13], [21]), ([22], [22]), ([23, 22], [22, 23]), ([24, 22, 22], [22, 24]), ([22], [22]), ([26, 22], [22, 26]), ([27, 25, 22], [22, 27]), ([25, 28, 28, 22], [22, 25, 28]), ([29, 22], [22, 29]), ([22, 30], [22, 30])])
def haywainlaw22_NetAgain.B6 : List Nat := [0, 1, 3, 7, 15, 31, 63, 127, 127, 383, 895, 2047, 4095, 8191, 16383, 16383, 49151, 16383, 245759, 507903, 1048575, 2097151, 4194303, 8388607, 16777215, 33554431, 8388607, 75497471, 268435455, 536870911, 1073741823, 2147483647]
theorem haywainlaw22_NetAgain.tab6 : rtab .any (opsOf Try.f7 6) = haywainlaw22_NetAgain.T6 := by kernel_rfl
theorem haywainlaw22_NetAgain.bits6 : waitsOk haywainlaw22_NetAgain.T6.2 haywainlaw22_NetAgain.B6 = true := by kernel_rfl
def haywainlaw22_NetAgain.T10 : Bool × List (List Nat × List Nat) := (true, [([], []), ([0], [0]), ([1], [1]), ([], []), ([3], [3]), ([4, 2], [4]), ([2, 5, 5], [2, 5]), ([6, 6], [6]), ([7, 7], [7]), ([7, 8], [7, 8]), ([9, 8, 0, 1, 2, 3, 4, 5, 6, 7, 8, 9], [9])])
def haywainlaw22_NetAgain.B10 : List Nat := [0, 1, 3, 0, 8, 31, 63, 127, 255, 511, 1023]
theorem haywainlaw22_NetAgain.tab10 : rtab .any (opsOf Try.f7 10) = haywainlaw22_NetAgain.T10 := by kernel_rfl
theorem haywainlaw22_NetAgain.bits10 : waitsOk haywainlaw22_NetAgain.T10.2 haywainlaw22_NetAgain.B10 = true := by kernel_rfl
def haywainlaw22_NetAgain.T11 : Bool × List (List Nat × List Nat) := (true, [([], []), ([0], [0]), ([1], [1]), ([2], [2]), ([3, 2], [2, 3]), ([4, 2], [2, 4]), ([2], [2]), ([6, 2], [2, 6]), ([7, 2], [2, 7]), ([8, 2], [2, 8]), ([5, 9, 2], [2, 5, 9]), ([2, 10], [2, 10]), ([11, 2], [11]), ([12], [12]), ([13, 12], [12, 13]), ([12], [12]), ([15, 12], [12, 15]), ([16, 12], [12, 16]), ([14, 17, 12], [12, 14, 17]), ([18, 12], [12, 18]), ([12], [12]), ([19, 20, 12], [12, 19, 20]), ([12, 21], [12, 21]), ([22, 12], [22]), ([23], [23]), ([24, 23], [23, 24]), ([23], [23]), ([26, 23], [23, 26]), ([27, 23], [23, 27]), ([25, 28, 23], [23, 25, 28]), ([29, 23, 23], [23, 29]), ([23], [23]), ([31, 23], [23, 31]), ([32, 30, 23], [23, 32]), ([30, 33, 33, 23], [23, 30, 33]), ([23, 34], [23, 34]), ([35, 34], [35]), ([36, 36], [36]), ([36, 37], [36, 37]), ([38, 37, 0, 1, 2, 3, 4, 5, 6, 7, 8, 9, 10, 11, 12, 13, 14, 15, 16, 17, 18, 19, 20, 21, 22, 23, 24, 25, 26, 27, 28, 29, 30, 31, 32, 33, 34, 35, 36, 37, 38], [38])])
def haywainlaw22_NetAgain.B11 : List Nat := [0, 1, 3, 7, 15, 31, 7, 71, 199, 455, 1023, 2047, 4095, 8191, 16383, 8191, 40959, 106495, 262143, 524287, 8191, 2097151, 4194303, 8388607, 16777215, 33554431, 16777215, 83886079, 218103807, 536870911, 1073741823, 16777215, 2164260863, 8589934591, 17179869183, 34359738367, 68719476735, 137438953471, 274877906943, 549755813887]
theorem haywainlaw22_NetAgain.tab11 : rtab .any (opsOf Try.f7 11) = haywainlaw22_NetAgain.T11 := by kernel_rfl
theorem haywainlaw22_NetAgain.bits11 : waitsOk haywainlaw22_NetAgain.T11.2 haywainlaw22_NetAgain.B11 = true := by kernel_rfl
set_option maxHeartbeats 8000000 in
set_option maxRecDepth 100000 in
theorem haywainlaw22_NetAgain.calls (k : Nat) (A0_0 : Option Addr) (c0_0 : Nat) (l0_0 : List (S23)) (a1 : Int) (a2_0 : Int) (a2_1 : Int) (a2_2 : Int) (a2_3 : Int) (a2_4 : Int) (a2_5 : Int) (a2_6 : Int) (a2_7 : ByteArray) (r : Bool) (w : World) (hr0_0 : Kd.C k23 w A0_0 l0_0.length l0_0) (hc0_0 : l0_0.length ≤ c0_0) (h : haywainlaw22_NetAgain.f k l0_0 a1 a2_0 a2_1 a2_2 a2_3 a2_4 a2_5 a2_6 a2_7 = some r) :
  Calls Try.prog 7 #[.agg #[.slice A0_0 l0_0.length c0_0], .int .i64 a1, .agg #[.int .i64 a2_0, .int .i64 a2_1, .int .i64 a2_2, .int .i64 a2_3, .int .i64 a2_4, .int .i64 a2_5, .int .i64 a2_6, .string a2_7]] w fun e w' => e = .returned (.bool r) ∧ Below w.heap.size w w' := by
 have hu26 := Try.underlying26
 have hu23 := Try.underlying23
 have HR0_0 := Aside0.mk hr0_0
 have HC0_0 := Aside0.mk hc0_0
 clear hr0_0 hc0_0
 have HB := Aside0.mk (Below.refl w.heap.size w)
 have H : ((haywainlaw22_great.f k l0_0).bind fun t472 => (if t472 = true then (haywainlaw22_NetAgain.j0 k a1 true l0_0 a2_0 a2_1 a2_2 a2_3 a2_4 a2_5 a2_6 a2_7) else (if (a2_7.size : Int) > 10000 then (haywainlaw22_NetAgain.j0 k a1 true l0_0 a2_0 a2_1 a2_2 a2_3 a2_4 a2_5 a2_6 a2_7) else ((haywainlaw22_As.f k l0_0).bind fun t473 => ((haywainref22_Right.f k t473).bind fun t476 => (haywainlaw22_NetAgain.j0 k a1 (!t476) l0_0 a2_0 a2_1 a2_2 a2_3 a2_4 a2_5 a2_6 a2_7)))))) = some r := h
 clear h
 have HC4 := Aside0.mk H
 clear H
 go_enter Try.func7, Try.ntmps7
 go_upto_region 1 with (first | ((with_reducible refine gate_dst (N := 3) rfl ?_); (try (refine gate_guard (by rfl) ?_; dsimp only)); refine box_event ?hg (N := 3) ?hd (cs := #[.slice A0_0 l0_0.length c0_0]) (t := 26) ?hr ?_; (case hd => rfl); (case hg => rfl); (case hr => first | (go_simp; done) | (go_simp; rfl)); intro gb470 hg w5 hbox hb; have n0_ := Aside0.mk (below_step (by repeat (first | (with_reducible first | exact HB.out | apply below_alloc | apply pw_below_drewN | apply below_drew1) | exact HB.out)) hb); have n1_ := Aside0.mk (hbox); have n2_ := Aside0.mk ((by rw [hg]; exact (below_size (by repeat (first | (with_reducible first | exact HB.out | apply below_alloc | apply pw_below_drewN | apply below_drew1) | exact HB.out))) : w.heap.size ≤ gb470)); have n3_ := Aside0.mk ((by rw [hg]; exact (below_size (by repeat (first | (with_reducible first | exact HB.out | apply below_alloc | apply pw_below_drewN | apply below_drew1) | exact HB.out))) : w.heap.size ≤ gb470)); clear HB; have HB := n0_; have BK470 := n1_; have GW470 := n2_; have GE470 := n3_; clear n0_ n1_ n2_ n3_; clear hb hbox hg) | ((with_reducible refine gate_dst (N := 5) rfl ?_); (try (refine gate_guard (by rfl) ?_; dsimp only)); refine box_event ?hg (N := 5) ?hd (cs := #[.int .i64 a2_0, .int .i64 a2_1, .int .i64 a2_2, .int .i64 a2_3, .int .i64 a2_4, .int .i64 a2_5, .int .i64 a2_6, .string a2_7]) (t := 23) ?hr ?_; (case hd => rfl); (case hg => rfl); (case hr => first | (go_simp; done) | (go_simp; rfl)); intro gb471 hg w6 hbox hb; have n0_ := Aside0.mk (blk_below (g := gb470) (o := .cells #[.slice A0_0 l0_0.length c0_0] 26 (0, 0)) (by (with_reducible repeat (first | refine blk_drewN ?_ _ | refine blk_drew ?_ | refine blk_alloc ?_ _)); exact BK470.out) hb); have n1_ := Aside0.mk (below_step (by repeat (first | (with_reducible first | exact HB.out | apply below_alloc | apply pw_below_drewN | apply below_drew1 | refine below_set ?_ GE470.out) | exact HB.out)) hb); have n2_ := Aside0.mk (hbox); have n3_ := Aside0.mk ((by rw [hg]; exact (below_size (by repeat (first | (with_reducible first | exact HB.out | apply below_alloc | apply pw_below_drewN | apply below_drew1 | refine below_set ?_ GE470.out) | exact HB.out))) : w.heap.size ≤ gb471)); have n4_ := Aside0.mk ((by rw [hg]; exact (below_size (by repeat (first | (with_reducible first | exact HB.out | apply below_alloc | apply pw_below_drewN | apply below_drew1 | refine below_set ?_ GE470.out) | exact HB.out))) : w.heap.size ≤ gb471)); have n5_ := Aside0.mk ((by rw [hg]; exact Nat.ne_of_lt (blk_lt (g := gb470) (o := .cells #[.slice A0_0 l0_0.length c0_0] 26 (0, 0)) (by (with_reducible repeat (first | refine blk_drewN ?_ _ | refine blk_drew ?_ | refine blk_alloc ?_ _)); exact BK470.out)) : gb470 ≠ gb471)); have n6_ := Aside0.mk ((by rw [hg]; exact Nat.ne_of_gt (blk_lt (g := gb470) (o := .cells #[.slice A0_0 l0_0.length c0_0] 26 (0, 0)) (by (with_reducible repeat (first | refine blk_drewN ?_ _ | refine blk_drew ?_ | refine blk_alloc ?_ _)); exact BK470.out)) : gb471 ≠ gb470)); clear BK470; clear HB; have BK470 := n0_; have HB := n1_; have BK471 := n2_; have GW471 := n3_; have GE471 := n4_; have NB470_471 := n5_; have NB471_470 := n6_; clear n0_ n1_ n2_ n3_ n4_ n5_ n6_; clear hb hbox hg))
 (try simp only [Act.put, List.setIfInBounds_toArray, List.set_cons_zero, List.set_cons_succ])
 go_cut [29] (fun v29 wc => ∃ (kq : Nat) (x29_3 : Bool), v29 = .bool x29_3 ∧ Aside0 (haywainlaw22_NetAgain.j0 kq a1 x29_3 l0_0 a2_0 a2_1 a2_2 a2_3 a2_4 a2_5 a2_6 a2_7 = some r) ∧ Aside0 (kq ≤ k) ∧ Aside0 (wc.heap[gb470]? = some (.cells #[(.slice A0_0 l0_0.length c0_0)] 26 (0, 0))) ∧ Aside0 (wc.heap[gb471]? = some (.cells #[.int .i64 a2_0, .int .i64 a2_1, .int .i64 a2_2, .int .i64 a2_3, .int .i64 a2_4, .int .i64 a2_5, .int .i64 a2_6, .string a2_7] 23 (0, 0))) ∧ Aside0 (Below w.heap.size w wc))
 case first =>
  have H := HC4.out
  clear HC4
  replace H := Option.bind_eq_some_iff.mp H
  obtain ⟨t472, A70, H⟩ := H
  replace H : (if t472 = true then (haywainlaw22_NetAgain.j0 k a1 true l0_0 a2_0 a2_1 a2_2 a2_3 a2_4 a2_5 a2_6 a2_7) else (if (a2_7.size : Int) > 10000 then (haywainlaw22_NetAgain.j0 k a1 true l0_0 a2_0 a2_1 a2_2 a2_3 a2_4 a2_5 a2_6 a2_7) else ((haywainlaw22_As.f k l0_0).bind fun t473 => ((haywainref22_Right.f k t473).bind fun t476 => (haywainlaw22_NetAgain.j0 k a1 (!t476) l0_0 a2_0 a2_1 a2_2 a2_3 a2_4 a2_5 a2_6 a2_7))))) = some r := H
  have A7 := Aside0.mk A70
  clear A70
  by_cases c8 : t472 = true
  ·subst c8
   have H1 : (haywainlaw22_NetAgain.j0 k a1 true l0_0 a2_0 a2_1 a2_2 a2_3 a2_4 a2_5 a2_6 a2_7) = some r := by rw [if_pos rfl] at H; exact H
   clear H
   have H := H1
   clear H1
   have H' := Aside0.mk H
   clear H
   have hnb9 := NB470_471.out
   have hnc9 := NB471_470.out
   have hcz10_0 : w6.cell? ⟨gb470, 0, none⟩ = some (.slice A0_0 l0_0.length c0_0) := (blk_cell BK470.out 0).trans rfl
   have hfz10_0 := blk_frozen BK470.out 0
   go_wp2_with (first | ((with_reducible refine gate_callee (f := 8) rfl ?_); refine goesL_ (some 16) rfl rfl Try.func8 (by kernel_rfl) rfl #[.slice A0_0 l0_0.length c0_0] rfl (by (try simp only [List.map_toArray, List.map_cons, List.map_nil]); first | done | rfl | (simp only [List.length_drop, List.length_take]; rfl)) ?_; (with_reducible refine (haywainlaw22_great.calls k _ _ l0_0 true _ ?side1 ?side2 A7.out).mono ?_); (case side1 => repeat (first | exact (Kd.C_below HR0_0.out HB.out) | (with_reducible refine Kd.C_alloc ?_ _) | (with_reducible refine Kd.C_drewN ?_ _) | (with_reducible refine Kd.C_drew ?_))); (case side2 => exact HC0_0.out); rintro e w' ⟨rfl, ⟨nd, rfl⟩⟩; refine ⟨_, rfl, ?_⟩))
   go_meet
   case rel => exact ⟨_, (true), (by first | rfl | (simp; done) | (simp [*]; done)), H', ⟨by first | omega | exact Nat.le_refl _⟩, ⟨by (with_reducible repeat (first | refine blk_drewN ?_ _ | refine blk_drew ?_ | refine blk_alloc ?_ _)); exact BK470.out⟩, ⟨by (with_reducible repeat (first | refine blk_drewN ?_ _ | refine blk_drew ?_ | refine blk_alloc ?_ _)); exact BK471.out⟩, ⟨by repeat (first | (with_reducible first | exact HB.out | apply below_alloc | apply pw_below_drewN | apply below_drew1 | refine below_set ?_ GE470.out | refine below_set ?_ GE471.out) | exact HB.out)⟩⟩
  ·replace c8 := Bool.eq_false_iff.mpr c8
   subst c8
   have H1 : (if (a2_7.size : Int) > 10000 then (haywainlaw22_NetAgain.j0 k a1 true l0_0 a2_0 a2_1 a2_2 a2_3 a2_4 a2_5 a2_6 a2_7) else ((haywainlaw22_As.f k l0_0).bind fun t473 => ((haywainref22_Right.f k t473).bind fun t476 => (haywainlaw22_NetAgain.j0 k a1 (!t476) l0_0 a2_0 a2_1 a2_2 a2_3 a2_4 a2_5 a2_6 a2_7)))) = some r := by rw [if_neg (show ¬ (false = true) by decide)] at H; exact H
   clear H
   have H := H1
   clear H1
   by_cases c11 : (a2_7.size : Int) > 10000
   ·rw [if_pos c11] at H
    have c11b0 : decide (10000 < (a2_7.size : Int)) = true := decide_eq_true c11
    have c11b1 : decide (10000 < a2_7.size) = true := decide_eq_true (by omega)
    clear c11
    (first | rw [c11b0] | (simp only [i64_w, i32_w]; rw [c11b0]) | skip)
    have H' := Aside0.mk H
    clear H
    have hnb12 := NB470_471.out
    have hnc12 := NB471_470.out
    have hcz13_0 : w6.cell? ⟨gb470, 0, none⟩ = some (.slice A0_0 l0_0.length c0_0) := (blk_cell BK470.out 0).trans rfl
    have hfz13_0 := blk_frozen BK470.out 0
    go_wp2_with (first | ((with_reducible refine gate_callee (f := 8) rfl ?_); refine goesL_ (some 16) rfl rfl Try.func8 (by kernel_rfl) rfl #[.slice A0_0 l0_0.length c0_0] rfl (by (try simp only [List.map_toArray, List.map_cons, List.map_nil]); first | done | rfl | (simp only [List.length_drop, List.length_take]; rfl)) ?_; (with_reducible refine (haywainlaw22_great.calls k _ _ l0_0 false _ ?side1 ?side2 A7.out).mono ?_); (case side1 => repeat (first | exact (Kd.C_below HR0_0.out HB.out) | (with_reducible refine Kd.C_alloc ?_ _) | (with_reducible refine Kd.C_drewN ?_ _) | (with_reducible refine Kd.C_drew ?_))); (case side2 => exact HC0_0.out); rintro e w' ⟨rfl, ⟨nd, rfl⟩⟩; refine ⟨_, rfl, ?_⟩; have hcz14_0 : w6.cell? ⟨gb471, 0, none⟩ = some (.int .i64 a2_0) := (blk_cell BK471.out 0).trans rfl; have hcz14_1 : w6.cell? ⟨gb471, 1, none⟩ = some (.int .i64 a2_1) := (blk_cell BK471.out 1).trans rfl; have hcz14_2 : w6.cell? ⟨gb471, 2, none⟩ = some (.int .i64 a2_2) := (blk_cell BK471.out 2).trans rfl; have hcz14_3 : w6.cell? ⟨gb471, 3, none⟩ = some (.int .i64 a2_3) := (blk_cell BK471.out 3).trans rfl; have hcz14_4 : w6.cell? ⟨gb471, 4, none⟩ = some (.int .i64 a2_4) := (blk_cell BK471.out 4).trans rfl; have hcz14_5 : w6.cell? ⟨gb471, 5, none⟩ = some (.int .i64 a2_5) := (blk_cell BK471.out 5).trans rfl; have hcz14_6 : w6.cell? ⟨gb471, 6, none⟩ = some (.int .i64 a2_6) := (blk_cell BK471.out 6).trans rfl; have hcz14_7 : w6.cell? ⟨gb471, 7, none⟩ = some (.string a2_7) := (blk_cell BK471.out 7).trans rfl; have hfz14_0 := blk_frozen BK471.out 0; have hfz14_1 := blk_frozen BK471.out 1; have hfz14_2 := blk_frozen BK471.out 2; have hfz14_3 := blk_frozen BK471.out 3; have hfz14_4 := blk_frozen BK471.out 4; have hfz14_5 := blk_frozen BK471.out 5; have hfz14_6 := blk_frozen BK471.out 6; have hfz14_7 := blk_frozen BK471.out 7))
    go_meet
    case rel => exact ⟨_, (true), (by first | rfl | (simp; done) | (simp [*]; done)), H', ⟨by first | omega | exact Nat.le_refl _⟩, ⟨by (with_reducible repeat (first | refine blk_drewN ?_ _ | refine blk_drew ?_ | refine blk_alloc ?_ _)); exact BK470.out⟩, ⟨by (with_reducible repeat (first | refine blk_drewN ?_ _ | refine blk_drew ?_ | refine blk_alloc ?_ _)); exact BK471.out⟩, ⟨by repeat (first | (with_reducible first | exact HB.out | apply below_alloc | apply pw_below_drewN | apply below_drew1 | refine below_set ?_ GE470.out | refine below_set ?_ GE471.out) | exact HB.out)⟩⟩
   ·rw [if_neg c11] at H
    have c11b0 : decide (10000 < (a2_7.size : Int)) = false := decide_eq_false c11
    have c11b1 : decide (10000 < a2_7.size) = false := decide_eq_false (by omega)
    clear c11
    (first | rw [c11b0] | (simp only [i64_w, i32_w]; rw [c11b0]) | skip)
    replace H := Option.bind_eq_some_iff.mp H
    obtain ⟨t473, A150, H⟩ := H
    replace H : ((haywainref22_Right.f k t473).bind fun t476 => (haywainlaw22_NetAgain.j0 k a1 (!t476) l0_0 a2_0 a2_1 a2_2 a2_3 a2_4 a2_5 a2_6 a2_7)) = some r := H
    have A15 := Aside0.mk A150
    clear A150
    replace H := Option.bind_eq_some_iff.mp H
    obtain ⟨t476, A160, H⟩ := H
    replace H : (haywainlaw22_NetAgain.j0 k a1 (!t476) l0_0 a2_0 a2_1 a2_2 a2_3 a2_4 a2_5 a2_6 a2_7) = some r := H
    have A16 := Aside0.mk A160
    clear A160
    have H' := Aside0.mk H
    clear H
    have hnb17 := NB470_471.out
    have hnc17 := NB471_470.out
    have hcz18_0 : w6.cell? ⟨gb470, 0, none⟩ = some (.slice A0_0 l0_0.length c0_0) := (blk_cell BK470.out 0).trans rfl
    have hfz18_0 := blk_frozen BK470.out 0
    go_wp2_with (first | ((with_reducible refine gate_callee (f := 8) rfl ?_); refine goesL_ (some 16) rfl rfl Try.func8 (by kernel_rfl) rfl #[.slice A0_0 l0_0.length c0_0] rfl (by (try simp only [List.map_toArray, List.map_cons, List.map_nil]); first | done | rfl | (simp only [List.length_drop, List.length_take]; rfl)) ?_; (with_reducible refine (haywainlaw22_great.calls k _ _ l0_0 false _ ?side1 ?side2 A7.out).mono ?_); (case side1 => repeat (first | exact (Kd.C_below HR0_0.out HB.out) | (with_reducible refine Kd.C_alloc ?_ _) | (with_reducible refine Kd.C_drewN ?_ _) | (with_reducible refine Kd.C_drew ?_))); (case side2 => exact HC0_0.out); rintro e w' ⟨rfl, ⟨nd, rfl⟩⟩; refine ⟨_, rfl, ?_⟩; have hcz19_0 : w6.cell? ⟨gb471, 0, none⟩ = some (.int .i64 a2_0) := (blk_cell BK471.out 0).trans rfl; have hcz19_1 : w6.cell? ⟨gb471, 1, none⟩ = some (.int .i64 a2_1) := (blk_cell BK471.out 1).trans rfl; have hcz19_2 : w6.cell? ⟨gb471, 2, none⟩ = some (.int .i64 a2_2) := (blk_cell BK471.out 2).trans rfl; have hcz19_3 : w6.cell? ⟨gb471, 3, none⟩ = some (.int .i64 a2_3) := (blk_cell BK471.out 3).trans rfl; have hcz19_4 : w6.cell? ⟨gb471, 4, none⟩ = some (.int .i64 a2_4) := (blk_cell BK471.out 4).trans rfl; have hcz19_5 : w6.cell? ⟨gb471, 5, none⟩ = some (.int .i64 a2_5) := (blk_cell BK471.out 5).trans rfl; have hcz19_6 : w6.cell? ⟨gb471, 6, none⟩ = some (.int .i64 a2_6) := (blk_cell BK471.out 6).trans rfl; have hcz19_7 : w6.cell? ⟨gb471, 7, none⟩ = some (.string a2_7) := (blk_cell BK471.out 7).trans rfl; have hfz19_0 := blk_frozen BK471.out 0; have hfz19_1 := blk_frozen BK471.out 1; have hfz19_2 := blk_frozen BK471.out 2; have hfz19_3 := blk_frozen BK471.out 3; have hfz19_4 := blk_frozen BK471.out 4; have hfz19_5 := blk_frozen BK471.out 5; have hfz19_6 := blk_frozen BK471.out 6; have hfz19_7 := blk_frozen BK471.out 7) | (go_at_call 12; (with_reducible refine (haywainlaw22_As.calls k _ _ l0_0 t473 _ ?side1 ?side2 A15.out).mono ?_); (case side1 => repeat (first | exact (Kd.C_below HR0_0.out (by repeat (first | (with_reducible first | exact HB.out | apply below_alloc | apply pw_below_drewN | apply below_drew1 | refine below_set ?_ GE470.out | refine below_set ?_ GE471.out) | exact HB.out))) | (with_reducible refine Kd.C_alloc ?_ _) | (with_reducible refine Kd.C_drewN ?_ _) | (with_reducible refine Kd.C_drew ?_))); (case side2 => exact HC0_0.out); rintro e w20 ⟨v474, rfl, ho0, hb⟩; have n0_ := Aside0.mk (Kd.R_lower ho0 (below_size (by repeat (first | (with_reducible first | exact HB.out | apply below_alloc | apply pw_below_drewN | apply below_drew1 | refine below_set ?_ GE470.out | refine below_set ?_ GE471.out) | exact HB.out)))); have n1_ := Aside0.mk (blk_below (g := gb470) (o := .cells #[.slice A0_0 l0_0.length c0_0] 26 (0, 0)) (by (with_reducible repeat (first | refine blk_drewN ?_ _ | refine blk_drew ?_ | refine blk_alloc ?_ _)); exact BK470.out) hb); have n2_ := Aside0.mk (blk_below (g := gb471) (o := .cells #[.int .i64 a2_0, .int .i64 a2_1, .int .i64 a2_2, .int .i64 a2_3, .int .i64 a2_4, .int .i64 a2_5, .int .i64 a2_6, .string a2_7] 23 (0, 0)) (by (with_reducible repeat (first | refine blk_drewN ?_ _ | refine blk_drew ?_ | refine blk_alloc ?_ _)); exact BK471.out) hb); have n3_ := Aside0.mk (below_step (by repeat (first | (with_reducible first | exact HB.out | apply below_alloc | apply pw_below_drewN | apply below_drew1 | refine below_set ?_ GE470.out | refine below_set ?_ GE471.out) | exact HB.out)) hb); clear BK470; clear BK471; clear HB; have HO475 := n0_; have BK470 := n1_; have BK471 := n2_; have HB := n3_; clear n0_ n1_ n2_ n3_; (try clear hb); (try clear hb2); (try clear hk); (try clear hi); (try clear ho0); obtain ⟨Ao21, co21, eo21⟩ := Kd.R_slice HO475.out; subst eo21) | (go_at_call 14; (with_reducible refine (haywainref22_Right.calls k _ _ t473 t476 _ ?side1 ?side2 A16.out).mono ?_); (case side1 => repeat (first | exact (Kd.R_reads' HO475.out).2.2 | (with_reducible refine Kd.C_alloc ?_ _) | (with_reducible refine Kd.C_drewN ?_ _) | (with_reducible refine Kd.C_drew ?_))); (case side2 => exact (Kd.R_reads' HO475.out).2.1); rintro e w22 ⟨rfl, hb⟩; have n0_ := Aside0.mk (Kd.R_below (by (with_reducible repeat (first | apply Kd.R_alloc | apply Kd.R_drewN | apply Kd.R_drew)); exact HO475.out) hb); have n1_ := Aside0.mk (blk_below (g := gb470) (o := .cells #[.slice A0_0 l0_0.length c0_0] 26 (0, 0)) (by (with_reducible repeat (first | refine blk_drewN ?_ _ | refine blk_drew ?_ | refine blk_alloc ?_ _)); exact BK470.out) hb); have n2_ := Aside0.mk (blk_below (g := gb471) (o := .cells #[.int .i64 a2_0, .int .i64 a2_1, .int .i64 a2_2, .int .i64 a2_3, .int .i64 a2_4, .int .i64 a2_5, .int .i64 a2_6, .string a2_7] 23 (0, 0)) (by (with_reducible repeat (first | refine blk_drewN ?_ _ | refine blk_drew ?_ | refine blk_alloc ?_ _)); exact BK471.out) hb); have n3_ := Aside0.mk (below_step (by repeat (first | (with_reducible first | exact HB.out | apply below_alloc | apply pw_below_drewN | apply below_drew1 | refine below_set ?_ GE470.out | refine below_set ?_ GE471.out) | exact HB.out)) hb); clear HO475; clear BK470; clear BK471; clear HB; have HO475 := n0_; have BK470 := n1_; have BK471 := n2_; have HB := n3_; clear n0_ n1_ n2_ n3_; (try clear hb); (try clear hb2); (try clear hk); (try clear hi)))
    go_meet
    case rel => exact ⟨_, (!t476), (by first | rfl | (simp; done) | (simp [*]; done)), H', ⟨by first | omega | exact Nat.le_refl _⟩, ⟨by (with_reducible repeat (first | refine blk_drewN ?_ _ | refine blk_drew ?_ | refine blk_alloc ?_ _)); exact BK470.out⟩, ⟨by (with_reducible repeat (first | refine blk_drewN ?_ _ | refine blk_drew ?_ | refine blk_alloc ?_ _)); exact BK471.out⟩, ⟨by repeat (first | (with_reducible first | exact HB.out | apply below_alloc | apply pw_below_drewN | apply below_drew1 | refine below_set ?_ GE470.out | refine below_set ?_ GE471.out) | exact HB.out)⟩⟩
 case rest =>
  clear HC4
  try clear c1
  try clear p2
  try clear c7
  try clear c8
  try clear c9
  try clear c11
  try clear c11b0
  try clear c11b1
  try clear c12
  try clear c17
  try clear hcz10_0
  try clear hcz13_0
  try clear hcz14_0
  try clear hcz14_1
  try clear hcz14_2
  try clear hcz14_3
  try clear hcz14_4
  try clear hcz14_5
  try clear hcz14_6
  try clear hcz14_7
  try clear hcz18_0
  try clear hcz19_0
  try clear hcz19_1
  try clear hcz19_2
  try clear hcz19_3
  try clear hcz19_4
  try clear hcz19_5
  try clear hcz19_6
  try clear hcz19_7
  try clear hfz10_0
  try clear hfz13_0
  try clear hfz14_0
  try clear hfz14_1
  try clear hfz14_2
  try clear hfz14_3
  try clear hfz14_4
  try clear hfz14_5
  try clear hfz14_6
  try clear hfz14_7
  try clear hfz18_0
  try clear hfz19_0
  try clear hfz19_1
  try clear hfz19_2
  try clear hfz19_3
  try clear hfz19_4
  try clear hfz19_5
  try clear hfz19_6
  try clear hfz19_7
  obtain ⟨kq, x29_3, rfl, HA, HJ3, BK470, BK471, HB⟩ := hcut
  cases kq with
  | zero => exact absurd HA.out (by simp [haywainlaw22_NetAgain.j0])
  | succ kj3 =>
   have H := HA.out
   clear HA
   simp only [haywainlaw22_NetAgain.j0] at H
   by_cases c23 : x29_3 = true
   ·subst c23
    have H1 : ((haywainlaw22_knows.f kj3).bind fun t477 => (some t477)) = some r := by rw [if_pos rfl] at H; exact H
    clear H
    have H := H1
    clear H1
    replace H := Option.bind_eq_some_iff.mp H
    obtain ⟨t477, A240, H⟩ := H
    replace H : (some t477) = some r := H
    have A24 := Aside0.mk A240
    clear A240
    obtain rfl := Option.some.inj H
    go_wp2_with (first | ((with_reducible refine gate_callee (f := 9) rfl ?_); refine goesL_ (some 30) rfl rfl Try.func9 (by kernel_rfl) rfl #[] rfl (by (try simp only [List.map_toArray, List.map_cons, List.map_nil]); first | done | rfl | (simp only [List.length_drop, List.length_take]; rfl)) ?_; (with_reducible refine (haywainlaw22_knows.calls kj3  t477 _ A24.out).mono ?_); rintro e w25 ⟨rfl, hb⟩; refine ⟨_, rfl, ?_⟩; have n0_ := Aside0.mk (blk_below (g := gb470) (o := .cells #[.slice A0_0 l0_0.length c0_0] 26 (0, 0)) (by (with_reducible repeat (first | refine blk_drewN ?_ _ | refine blk_drew ?_ | refine blk_alloc ?_ _)); exact BK470.out) hb); have n1_ := Aside0.mk (blk_below (g := gb471) (o := .cells #[.int .i64 a2_0, .int .i64 a2_1, .int .i64 a2_2, .int .i64 a2_3, .int .i64 a2_4, .int .i64 a2_5, .int .i64 a2_6, .string a2_7] 23 (0, 0)) (by (with_reducible repeat (first | refine blk_drewN ?_ _ | refine blk_drew ?_ | refine blk_alloc ?_ _)); exact BK471.out) hb); have n2_ := Aside0.mk (below_step (by repeat (first | (with_reducible first | exact HB.out | apply below_alloc | apply pw_below_drewN | apply below_drew1 | refine below_set ?_ GE470.out | refine below_set ?_ GE471.out) | exact HB.out)) hb); clear BK470; clear BK471; clear HB; have BK470 := n0_; have BK471 := n1_; have HB := n2_; clear n0_ n1_ n2_; (try clear hb); (try clear hb2); (try clear hk); (try clear hi)))
    go_ret
    exact ⟨by first | rfl | (simp [errW_none, errW_some] <;> rfl) | (simp [*, errW_none, errW_some] <;> rfl), by repeat (first | (with_reducible first | exact HB.out | apply below_alloc | apply pw_below_drewN | apply below_drew1 | refine below_set ?_ GE470.out | refine below_set ?_ GE471.out) | exact HB.out)⟩
   ·replace c23 := Bool.eq_false_iff.mpr c23
    subst c23
    have H1 : ((net_Twice.f kj3 l0_0 a1).bind fun bt478 => (if bt478.2 = 0 then ((net_Give.f kj3 bt478.1 (wrap64 ((bt478.1.length : Int) - 1))).bind fun bt483 => (if bt483.2.2.2.2.2.2.2.2.2 = 0 then (if a1 < 0 then (none) else (if a1 ≥ (l0_0.length : Int) then (none) else (if 0 ≤ a1 then (if a1 < (l0_0.length : Int) then (if (!(bt483.2.1 == ((rd_T23 l0_0 a1).f0)) || (!(bt483.2.2.1 == ((rd_T23 l0_0 a1).f1)) || (!(bt483.2.2.2.1 == ((rd_T23 l0_0 a1).f2)) || (!(bt483.2.2.2.2.1 == ((rd_T23 l0_0 a1).f3)) || (!(bt483.2.2.2.2.2.1 == ((rd_T23 l0_0 a1).f4)) || (!(bt483.2.2.2.2.2.2.1 == ((rd_T23 l0_0 a1).f5)) || (!(bt483.2.2.2.2.2.2.2.1 == ((rd_T23 l0_0 a1).f6)) || (!(bt483.2.2.2.2.2.2.2.2.1.toList == (((rd_T23 l0_0 a1).f7).toList)))))))))) = true then (none) else ((haywainlaw22_As.f kj3 bt483.1).bind fun t498 => ((haywainlaw22_As.f kj3 l0_0).bind fun t501 => ((haywainref22_Same.f kj3 t498 t501).bind fun t504 => (if t504 = true then (haywainlaw22_NetAgain.j1 kj3 l0_0 a2_0 a2_1 a2_2 a2_3 a2_4 a2_5 a2_6 a2_7) else (none)))))) else (none)) else (none)))) else (none))) else (haywainlaw22_NetAgain.j1 kj3 l0_0 a2_0 a2_1 a2_2 a2_3 a2_4 a2_5 a2_6 a2_7))) = some r := by rw [if_neg (show ¬ (false = true) by decide)] at H; exact H
    clear H
    have H := H1
    clear H1
    replace H := Option.bind_eq_some_iff.mp H
    obtain ⟨⟨t478, t481⟩, A260, H⟩ := H
    replace H : (if t481 = 0 then ((net_Give.f kj3 t478 (wrap64 ((t478.length : Int) - 1))).bind fun bt483 => (if bt483.2.2.2.2.2.2.2.2.2 = 0 then (if a1 < 0 then (none) else (if a1 ≥ (l0_0.length : Int) then (none) else (if 0 ≤ a1 then (if a1 < (l0_0.length : Int) then (if (!(bt483.2.1 == ((rd_T23 l0_0 a1).f0)) || (!(bt483.2.2.1 == ((rd_T23 l0_0 a1).f1)) || (!(bt483.2.2.2.1 == ((rd_T23 l0_0 a1).f2)) || (!(bt483.2.2.2.2.1 == ((rd_T23 l0_0 a1).f3)) || (!(bt483.2.2.2.2.2.1 == ((rd_T23 l0_0 a1).f4)) || (!(bt483.2.2.2.2.2.2.1 == ((rd_T23 l0_0 a1).f5)) || (!(bt483.2.2.2.2.2.2.2.1 == ((rd_T23 l0_0 a1).f6)) || (!(bt483.2.2.2.2.2.2.2.2.1.toList == (((rd_T23 l0_0 a1).f7).toList)))))))))) = true then (none) else ((haywainlaw22_As.f kj3 bt483.1).bind fun t498 => ((haywainlaw22_As.f kj3 l0_0).bind fun t501 => ((haywainref22_Same.f kj3 t498 t501).bind fun t504 => (if t504 = true then (haywainlaw22_NetAgain.j1 kj3 l0_0 a2_0 a2_1 a2_2 a2_3 a2_4 a2_5 a2_6 a2_7) else (none)))))) else (none)) else (none)))) else (none))) else (haywainlaw22_NetAgain.j1 kj3 l0_0 a2_0 a2_1 a2_2 a2_3 a2_4 a2_5 a2_6 a2_7)) = some r := H
    have A26 := Aside0.mk A260
    clear A260
    have HC27 := Aside0.mk H
    clear H
    have hnb28 := NB470_471.out
    have hnc28 := NB471_470.out
    have hcz29_0 : wc.cell? ⟨gb470, 0, none⟩ = some (.slice A0_0 l0_0.length c0_0) := (blk_cell BK470.out 0).trans rfl
    have hfz29_0 := blk_frozen BK470.out 0
    go_upto_if 38 with (first | ((with_reducible refine gate_callee (f := 20) rfl ?_); refine goesL_ (some 34) rfl rfl Try.func20 (by kernel_rfl) rfl #[.agg #[.slice A0_0 l0_0.length c0_0], .int .i64 a1] rfl (by (try simp only [List.map_toArray, List.map_cons, List.map_nil]); first | done | rfl | (simp only [List.length_drop, List.length_take]; rfl)) ?_; (with_reducible refine (net_Twice.calls kj3 _ _ l0_0 a1 t478 t481 _ ?side1 ?side2 A26.out).mono ?_); (case side1 => repeat (first | exact (Kd.C_below HR0_0.out HB.out) | (with_reducible refine Kd.C_alloc ?_ _) | (with_reducible refine Kd.C_drewN ?_ _) | (with_reducible refine Kd.C_drew ?_))); (case side2 => exact HC0_0.out); rintro e w30 ⟨v479, rfl, ho0, hb⟩; refine ⟨_, rfl, ?_⟩; have n0_ := Aside0.mk (Kd.R_lower (Kd.R_newB ho0 (g := gb471) (o := .cells #[.int .i64 a2_0, .int .i64 a2_1, .int .i64 a2_2, .int .i64 a2_3, .int .i64 a2_4, .int .i64 a2_5, .int .i64 a2_6, .string a2_7] 23 (0, 0)) (by (with_reducible repeat (first | refine blk_drewN ?_ _ | refine blk_drew ?_ | refine blk_alloc ?_ _)); exact BK471.out)) (below_size (by repeat (first | (with_reducible first | exact HB.out | apply below_alloc | apply pw_below_drewN | apply below_drew1 | refine below_set ?_ GE470.out | refine below_set ?_ GE471.out) | exact HB.out)))); have n1_ := Aside0.mk (blk_below (g := gb470) (o := .cells #[.slice A0_0 l0_0.length c0_0] 26 (0, 0)) (by (with_reducible repeat (first | refine blk_drewN ?_ _ | refine blk_drew ?_ | refine blk_alloc ?_ _)); exact BK470.out) hb); have n2_ := Aside0.mk (blk_below (g := gb471) (o := .cells #[.int .i64 a2_0, .int .i64 a2_1, .int .i64 a2_2, .int .i64 a2_3, .int .i64 a2_4, .int .i64 a2_5, .int .i64 a2_6, .string a2_7] 23 (0, 0)) (by (with_reducible repeat (first | refine blk_drewN ?_ _ | refine blk_drew ?_ | refine blk_alloc ?_ _)); exact BK471.out) hb); have n3_ := Aside0.mk (below_step (by repeat (first | (with_reducible first | exact HB.out | apply below_alloc | apply pw_below_drewN | apply below_drew1 | refine below_set ?_ GE470.out | refine below_set ?_ GE471.out) | exact HB.out)) hb); clear BK470; clear BK471; clear HB; have HO480 := n0_; have BK470 := n1_; have BK471 := n2_; have HB := n3_; clear n0_ n1_ n2_ n3_; (try clear hb); (try clear hb2); (try clear hk); (try clear hi); (try clear ho0)) | ((with_reducible refine gate_dst (N := 7) rfl ?_); (try (refine gate_guard (by rfl) ?_; dsimp only)); refine box_event ?hg (N := 7) ?hd (cs := #[.slice none 0 0]) (t := 26) ?hr ?_; (case hd => rfl); (case hg => rfl); (case hr => first | (go_simp; done) | (go_simp; rfl)); intro gb482 hg w31 hbox hb; have n0_ := Aside0.mk (Kd.R_below (by (with_reducible repeat (first | apply Kd.R_alloc | apply Kd.R_drewN | apply Kd.R_drew)); exact HO480.out) hb); have n1_ := Aside0.mk (blk_below (g := gb470) (o := .cells #[.slice A0_0 l0_0.length c0_0] 26 (0, 0)) (by (with_reducible repeat (first | refine blk_drewN ?_ _ | refine blk_drew ?_ | refine blk_alloc ?_ _)); exact BK470.out) hb); have n2_ := Aside0.mk (blk_below (g := gb471) (o := .cells #[.int .i64 a2_0, .int .i64 a2_1, .int .i64 a2_2, .int .i64 a2_3, .int .i64 a2_4, .int .i64 a2_5, .int .i64 a2_6, .string a2_7] 23 (0, 0)) (by (with_reducible repeat (first | refine blk_drewN ?_ _ | refine blk_drew ?_ | refine blk_alloc ?_ _)); exact BK471.out) hb); have n3_ := Aside0.mk (below_step (by repeat (first | (with_reducible first | exact HB.out | apply below_alloc | apply pw_below_drewN | apply below_drew1 | refine below_set ?_ GE470.out | refine below_set ?_ GE471.out) | exact HB.out)) hb); have n4_ := Aside0.mk (hbox); have n5_ := Aside0.mk ((by rw [hg]; exact (below_size (by repeat (first | (with_reducible first | exact HB.out | apply below_alloc | apply pw_below_drewN | apply below_drew1 | refine below_set ?_ GE470.out | refine below_set ?_ GE471.out) | exact HB.out))) : w.heap.size ≤ gb482)); have n6_ := Aside0.mk ((by rw [hg]; exact (below_size (by repeat (first | (with_reducible first | exact HB.out | apply below_alloc | apply pw_below_drewN | apply below_drew1 | refine below_set ?_ GE470.out | refine below_set ?_ GE471.out) | exact HB.out))) : w.heap.size ≤ gb482)); have n7_ := Aside0.mk ((by rw [hg]; exact Nat.ne_of_lt (blk_lt (g := gb470) (o := .cells #[.slice A0_0 l0_0.length c0_0] 26 (0, 0)) (by (with_reducible repeat (first | refine blk_drewN ?_ _ | refine blk_drew ?_ | refine blk_alloc ?_ _)); exact BK470.out)) : gb470 ≠ gb482)); have n8_ := Aside0.mk ((by rw [hg]; exact Nat.ne_of_gt (blk_lt (g := gb470) (o := .cells #[.slice A0_0 l0_0.length c0_0] 26 (0, 0)) (by (with_reducible repeat (first | refine blk_drewN ?_ _ | refine blk_drew ?_ | refine blk_alloc ?_ _)); exact BK470.out)) : gb482 ≠ gb470)); have n9_ := Aside0.mk ((by rw [hg]; exact Nat.ne_of_lt (blk_lt (g := gb471) (o := .cells #[.int .i64 a2_0, .int .i64 a2_1, .int .i64 a2_2, .int .i64 a2_3, .int .i64 a2_4, .int .i64 a2_5, .int .i64 a2_6, .string a2_7] 23 (0, 0)) (by (with_reducible repeat (first | refine blk_drewN ?_ _ | refine blk_drew ?_ | refine blk_alloc ?_ _)); exact BK471.out)) : gb471 ≠ gb482)); have n10_ := Aside0.mk ((by rw [hg]; exact Nat.ne_of_gt (blk_lt (g := gb471) (o := .cells #[.int .i64 a2_0, .int .i64 a2_1, .int .i64 a2_2, .int .i64 a2_3, .int .i64 a2_4, .int .i64 a2_5, .int .i64 a2_6, .string a2_7] 23 (0, 0)) (by (with_reducible repeat (first | refine blk_drewN ?_ _ | refine blk_drew ?_ | refine blk_alloc ?_ _)); exact BK471.out)) : gb482 ≠ gb471)); clear HO480; clear BK470; clear BK471; clear HB; have HO480 := n0_; have BK470 := n1_; have BK471 := n2_; have HB := n3_; have BK482 := n4_; have GW482 := n5_; have GE482 := n6_; have NB470_482 := n7_; have NB482_470 := n8_; have NB471_482 := n9_; have NB482_471 := n10_; clear n0_ n1_ n2_ n3_ n4_ n5_ n6_ n7_ n8_ n9_ n10_; clear hb hbox hg; obtain ⟨Ao32, co32, eo32⟩ := Kd.R_slice HO480.out; subst eo32; have hnb33 := NB482_470.out; have hnc33 := NB470_482.out; have hnb34 := NB482_471.out; have hnc34 := NB471_482.out; have hcz35_0 : w31.cell? ⟨gb482, 0, none⟩ = some (.slice none 0 0) := (blk_cell BK482.out 0).trans rfl; have hfz35_0 := blk_frozen BK482.out 0))
    (try simp only [Act.put, List.setIfInBounds_toArray, List.set_cons_zero, List.set_cons_succ])
    go_cut [] (fun wc => ∃ (kq : Nat), Aside0 (haywainlaw22_NetAgain.j1 kq l0_0 a2_0 a2_1 a2_2 a2_3 a2_4 a2_5 a2_6 a2_7 = some r) ∧ Aside0 (kq ≤ kj3) ∧ Aside0 (Kd.R k23 23 wc w.heap.size (fun k_ => k_ ≠ gb471) (.slice Ao32 t478.length co32) t478) ∧ Aside0 (wc.heap[gb470]? = some (.cells #[(.slice A0_0 l0_0.length c0_0)] 26 (0, 0))) ∧ Aside0 (wc.heap[gb471]? = some (.cells #[.int .i64 a2_0, .int .i64 a2_1, .int .i64 a2_2, .int .i64 a2_3, .int .i64 a2_4, .int .i64 a2_5, .int .i64 a2_6, .string a2_7] 23 (0, 0))) ∧ Aside0 (wc.heap[gb482]? = some (.cells #[(.slice Ao32 t478.length co32)] 26 (0, 0))) ∧ Aside0 (Below w.heap.size w wc))
    case first =>
     have H := HC27.out
     clear HC27
     by_cases c36 : t481 = 0
     ·rw [if_pos c36] at H
      have c36b0 : (t481 == 0) = true := beq_iff_eq.mpr c36
      have c36b1 : (t481 != 0) = false := bne_eq_false_iff_eq.mpr c36
      clear c36
      (first | rw [c36b0] | (simp only [i64_w, i32_w]; rw [c36b0]) | skip)
      replace H := Option.bind_eq_some_iff.mp H
      obtain ⟨⟨t483, t486, t487, t488, t489, t490, t491, t492, t493, t494⟩, A370, H⟩ := H
      replace H : (if t494 = 0 then (if a1 < 0 then (none) else (if a1 ≥ (l0_0.length : Int) then (none) else (if 0 ≤ a1 then (if a1 < (l0_0.length : Int) then (if (!(t486 == ((rd_T23 l0_0 a1).f0)) || (!(t487 == ((rd_T23 l0_0 a1).f1)) || (!(t488 == ((rd_T23 l0_0 a1).f2)) || (!(t489 == ((rd_T23 l0_0 a1).f3)) || (!(t490 == ((rd_T23 l0_0 a1).f4)) || (!(t491 == ((rd_T23 l0_0 a1).f5)) || (!(t492 == ((rd_T23 l0_0 a1).f6)) || (!(t493.toList == (((rd_T23 l0_0 a1).f7).toList)))))))))) = true then (none) else ((haywainlaw22_As.f kj3 t483).bind fun t498 => ((haywainlaw22_As.f kj3 l0_0).bind fun t501 => ((haywainref22_Same.f kj3 t498 t501).bind fun t504 => (if t504 = true then (haywainlaw22_NetAgain.j1 kj3 l0_0 a2_0 a2_1 a2_2 a2_3 a2_4 a2_5 a2_6 a2_7) else (none)))))) else (none)) else (none)))) else (none)) = some r := H
      have A37 := Aside0.mk A370
      clear A370
      by_cases c38 : t494 = 0
      ·rw [if_pos c38] at H
       have c38b0 : (t494 == 0) = true := beq_iff_eq.mpr c38
       have c38b1 : (t494 != 0) = false := bne_eq_false_iff_eq.mpr c38
       clear c38
       by_cases c39 : a1 < 0
       ·rw [if_pos c39] at H
        exact absurd H (by simp)
       ·rw [if_neg c39] at H
        have c39b0 : decide (a1 < 0) = false := decide_eq_false c39
        clear c39
        by_cases c40 : a1 ≥ (l0_0.length : Int)
        ·rw [if_pos c40] at H
         exact absurd H (by simp)
        ·rw [if_neg c40] at H
         have c40b0 : decide ((l0_0.length : Int) ≤ a1) = false := decide_eq_false c40
         clear c40
         by_cases c41 : 0 ≤ a1
         ·rw [if_pos c41] at H
          have c41b0 : decide (0 ≤ a1) = true := decide_eq_true c41
          clear c41
          by_cases c42 : a1 < (l0_0.length : Int)
          ·rw [if_pos c42] at H
           have c42b0 : decide (a1 < (l0_0.length : Int)) = true := decide_eq_true c42
           clear c42
           by_cases c43 : (!(t486 == ((rd_T23 l0_0 a1).f0)) || (!(t487 == ((rd_T23 l0_0 a1).f1)) || (!(t488 == ((rd_T23 l0_0 a1).f2)) || (!(t489 == ((rd_T23 l0_0 a1).f3)) || (!(t490 == ((rd_T23 l0_0 a1).f4)) || (!(t491 == ((rd_T23 l0_0 a1).f5)) || (!(t492 == ((rd_T23 l0_0 a1).f6)) || (!(t493.toList == (((rd_T23 l0_0 a1).f7).toList)))))))))) = true
           ·rw [if_pos c43] at H
            exact absurd H (by simp)
           ·rw [if_neg c43] at H
            have c43b0 : (!(t486 == ((rd_T23 l0_0 a1).f0)) || (!(t487 == ((rd_T23 l0_0 a1).f1)) || (!(t488 == ((rd_T23 l0_0 a1).f2)) || (!(t489 == ((rd_T23 l0_0 a1).f3)) || (!(t490 == ((rd_T23 l0_0 a1).f4)) || (!(t491 == ((rd_T23 l0_0 a1).f5)) || (!(t492 == ((rd_T23 l0_0 a1).f6)) || (!(t493.toList == (((rd_T23 l0_0 a1).f7).toList)))))))))) = false := by simpa using c43
            clear c43
            replace H := Option.bind_eq_some_iff.mp H
            obtain ⟨t498, A440, H⟩ := H
            replace H : ((haywainlaw22_As.f kj3 l0_0).bind fun t501 => ((haywainref22_Same.f kj3 t498 t501).bind fun t504 => (if t504 = true then (haywainlaw22_NetAgain.j1 kj3 l0_0 a2_0 a2_1 a2_2 a2_3 a2_4 a2_5 a2_6 a2_7) else (none)))) = some r := H
            have A44 := Aside0.mk A440
            clear A440
            replace H := Option.bind_eq_some_iff.mp H
            obtain ⟨t501, A450, H⟩ := H
            replace H : ((haywainref22_Same.f kj3 t498 t501).bind fun t504 => (if t504 = true then (haywainlaw22_NetAgain.j1 kj3 l0_0 a2_0 a2_1 a2_2 a2_3 a2_4 a2_5 a2_6 a2_7) else (none))) = some r := H
            have A45 := Aside0.mk A450
            clear A450
            replace H := Option.bind_eq_some_iff.mp H
            obtain ⟨t504, A460, H⟩ := H
            replace H : (if t504 = true then (haywainlaw22_NetAgain.j1 kj3 l0_0 a2_0 a2_1 a2_2 a2_3 a2_4 a2_5 a2_6 a2_7) else (none)) = some r := H
            have A46 := Aside0.mk A460
            clear A460
            by_cases c47 : t504 = true
            ·subst c47
             have H1 : (haywainlaw22_NetAgain.j1 kj3 l0_0 a2_0 a2_1 a2_2 a2_3 a2_4 a2_5 a2_6 a2_7) = some r := by rw [if_pos rfl] at H; exact H
             clear H
             have H := H1
             clear H1
             have H' := Aside0.mk H
             clear H
             have hnb48 := NB482_470.out
             have hnc48 := NB470_482.out
             have hnb49 := NB482_471.out
             have hnc49 := NB471_482.out
             have hcz50_0 : w31.cell? ⟨gb482, 0, none⟩ = some (.slice none 0 0) := (blk_cell BK482.out 0).trans rfl
             have hfz50_0 := blk_frozen BK482.out 0
             try go_wp2_with (first | ((with_reducible refine gate_callee (f := 17) rfl ?_); refine goesL_ (some 45) rfl rfl Try.func17 (by kernel_rfl) rfl #[.agg #[.slice Ao32 t478.length co32], .int .i64 (wrap64 ((t478.length : Int) - 1))] rfl (by (try simp only [List.map_toArray, List.map_cons, List.map_nil]); first | done | rfl | (simp only [List.length_drop, List.length_take]; rfl)) ?_; (with_reducible refine (net_Give.calls kj3 _ _ t478 (wrap64 ((t478.length : Int) - 1)) t483 t486 t487 t488 t489 t490 t491 t492 t493 t494 _ ?side1 ?side2 A37.out).mono ?_); (case side1 => refine (Kd.R_reads' (e := 23) (base := w.heap.size) (ok := fun k_ => (True ∧ k_ ≠ gb471)) (n := t478.length) (c := co32) ?_).2.2; exact (by (with_reducible repeat (first | apply Kd.R_alloc | apply Kd.R_drewN | apply Kd.R_drew)); exact (Kd.R_mono (Kd.R_far (p := ⟨gb482, 0, none⟩) (Kd.R_types HO480.out BK482.out (by decide)) (fun _ hk => hk.2) (.slice Ao32 t478.length co32)) (fun _ h_ => h_.1)))); (case side2 => exact (Kd.R_reads' HO480.out).2.1); rintro e w51 ⟨v484, rfl, ho0, hb⟩; refine ⟨_, rfl, ?_⟩; have n0_ := Aside0.mk (Kd.R_below (by (with_reducible repeat (first | apply Kd.R_alloc | apply Kd.R_drewN | apply Kd.R_drew)); exact (Kd.R_mono (Kd.R_far (p := ⟨gb482, 0, none⟩) (Kd.R_types HO480.out BK482.out (by decide)) (fun _ hk => hk.2) (.slice Ao32 t478.length co32)) (fun _ h_ => h_.1))) hb); have n1_ := Aside0.mk (Kd.V_lower (Kd.V_mono (ok' := fun k_ => some k_ ≠ (.slice Ao32 t478.length co32 : Value).ownBlock ∧ k_ ≠ gb470 ∧ k_ ≠ gb471 ∧ k_ ≠ gb482) ho0 (fun k_ hk_ => ⟨(Kd.fresh' (Kd.R_lt (by (with_reducible repeat (first | apply Kd.R_alloc | apply Kd.R_drewN | apply Kd.R_drew)); exact (Kd.R_mono (Kd.R_far (p := ⟨gb482, 0, none⟩) (Kd.R_types HO480.out BK482.out (by decide)) (fun _ hk => hk.2) (.slice Ao32 t478.length co32)) (fun _ h_ => h_.1)))) k_ hk_), (Kd.freshB (g := gb470) (o := .cells #[.slice A0_0 l0_0.length c0_0] 26 (0, 0)) (by (with_reducible repeat (first | refine blk_drewN ?_ _ | refine blk_drew ?_ | refine blk_alloc ?_ _)); refine blk_far ?_ NB470_482.out _; (with_reducible repeat (first | refine blk_drewN ?_ _ | refine blk_drew ?_ | refine blk_alloc ?_ _)); exact BK470.out) k_ hk_), (Kd.freshB (g := gb471) (o := .cells #[.int .i64 a2_0, .int .i64 a2_1, .int .i64 a2_2, .int .i64 a2_3, .int .i64 a2_4, .int .i64 a2_5, .int .i64 a2_6, .string a2_7] 23 (0, 0)) (by (with_reducible repeat (first | refine blk_drewN ?_ _ | refine blk_drew ?_ | refine blk_alloc ?_ _)); refine blk_far ?_ NB471_482.out _; (with_reducible repeat (first | refine blk_drewN ?_ _ | refine blk_drew ?_ | refine blk_alloc ?_ _)); exact BK471.out) k_ hk_), (Kd.freshB (g := gb482) (o := .cells #[.slice Ao32 t478.length co32] 26 (0, 0)) (by (with_reducible repeat (first | refine blk_drewN ?_ _ | refine blk_drew ?_ | refine blk_alloc ?_ _)); refine blk_put (cs := #[.slice none 0 0]) ?_ 0 _ rfl; (with_reducible repeat (first | refine blk_drewN ?_ _ | refine blk_drew ?_ | refine blk_alloc ?_ _)); exact BK482.out) k_ hk_)⟩)) (below_size (by repeat (first | (with_reducible first | exact HB.out | apply below_alloc | apply pw_below_drewN | apply below_drew1 | refine below_set ?_ GE470.out | refine below_set ?_ GE471.out | refine below_set ?_ GE482.out) | exact HB.out)))); have n2_ := Aside0.mk (blk_below (g := gb470) (o := .cells #[.slice A0_0 l0_0.length c0_0] 26 (0, 0)) (by (with_reducible repeat (first | refine blk_drewN ?_ _ | refine blk_drew ?_ | refine blk_alloc ?_ _)); refine blk_far ?_ NB470_482.out _; (with_reducible repeat (first | refine blk_drewN ?_ _ | refine blk_drew ?_ | refine blk_alloc ?_ _)); exact BK470.out) hb); have n3_ := Aside0.mk (blk_below (g := gb471) (o := .cells #[.int .i64 a2_0, .int .i64 a2_1, .int .i64 a2_2, .int .i64 a2_3, .int .i64 a2_4, .int .i64 a2_5, .int .i64 a2_6, .string a2_7] 23 (0, 0)) (by (with_reducible repeat (first | refine blk_drewN ?_ _ | refine blk_drew ?_ | refine blk_alloc ?_ _)); refine blk_far ?_ NB471_482.out _; (with_reducible repeat (first | refine blk_drewN ?_ _ | refine blk_drew ?_ | refine blk_alloc ?_ _)); exact BK471.out) hb); have n4_ := Aside0.mk (blk_below (g := gb482) (o := .cells #[.slice Ao32 t478.length co32] 26 (0, 0)) (by (with_reducible repeat (first | refine blk_drewN ?_ _ | refine blk_drew ?_ | refine blk_alloc ?_ _)); refine blk_put (cs := #[.slice none 0 0]) ?_ 0 _ rfl; (with_reducible repeat (first | refine blk_drewN ?_ _ | refine blk_drew ?_ | refine blk_alloc ?_ _)); exact BK482.out) hb); have n5_ := Aside0.mk (below_step (by repeat (first | (with_reducible first | exact HB.out | apply below_alloc | apply pw_below_drewN | apply below_drew1 | refine below_set ?_ GE470.out | refine below_set ?_ GE471.out | refine below_set ?_ GE482.out) | exact HB.out)) hb); clear HO480; clear BK470; clear BK471; clear BK482; clear HB; have HO480 := n0_; have HO485 := n1_; have BK470 := n2_; have BK471 := n3_; have BK482 := n4_; have HB := n5_; clear n0_ n1_ n2_ n3_ n4_ n5_; (try clear hb); (try clear hb2); (try clear hk); (try clear hi); (try clear ho0)) | ((with_reducible refine gate_dst (N := 9) rfl ?_); (try (refine gate_guard (by rfl) ?_; dsimp only)); refine box_event ?hg (N := 9) ?hd (cs := #[.slice none 0 0]) (t := 26) ?hr ?_; (case hd => rfl); (case hg => rfl); (case hr => first | (go_simp; done) | (go_simp; rfl)); intro gb495 hg w52 hbox hb; have n0_ := Aside0.mk (Kd.R_below (by (with_reducible repeat (first | apply Kd.R_alloc | apply Kd.R_drewN | apply Kd.R_drew)); exact HO480.out) hb); have n1_ := Aside0.mk (Kd.V_below (Kd.V_elderB (by (with_reducible repeat (first | apply Kd.V_alloc | apply Kd.V_drewN | apply Kd.V_drew)); exact HO485.out) gb495 (Nat.le_of_eq hg.symm)) hb); have n2_ := Aside0.mk (blk_below (g := gb470) (o := .cells #[.slice A0_0 l0_0.length c0_0] 26 (0, 0)) (by (with_reducible repeat (first | refine blk_drewN ?_ _ | refine blk_drew ?_ | refine blk_alloc ?_ _)); exact BK470.out) hb); have n3_ := Aside0.mk (blk_below (g := gb471) (o := .cells #[.int .i64 a2_0, .int .i64 a2_1, .int .i64 a2_2, .int .i64 a2_3, .int .i64 a2_4, .int .i64 a2_5, .int .i64 a2_6, .string a2_7] 23 (0, 0)) (by (with_reducible repeat (first | refine blk_drewN ?_ _ | refine blk_drew ?_ | refine blk_alloc ?_ _)); exact BK471.out) hb); have n4_ := Aside0.mk (blk_below (g := gb482) (o := .cells #[.slice Ao32 t478.length co32] 26 (0, 0)) (by (with_reducible repeat (first | refine blk_drewN ?_ _ | refine blk_drew ?_ | refine blk_alloc ?_ _)); exact BK482.out) hb); have n5_ := Aside0.mk (below_step (by repeat (first | (with_reducible first | exact HB.out | apply below_alloc | apply pw_below_drewN | apply below_drew1 | refine below_set ?_ GE470.out | refine below_set ?_ GE471.out | refine below_set ?_ GE482.out) | exact HB.out)) hb); have n6_ := Aside0.mk (hbox); have n7_ := Aside0.mk ((by rw [hg]; exact (below_size (by repeat (first | (with_reducible first | exact HB.out | apply below_alloc | apply pw_below_drewN | apply below_drew1 | refine below_set ?_ GE470.out | refine below_set ?_ GE471.out | refine below_set ?_ GE482.out) | exact HB.out))) : w.heap.size ≤ gb495)); have n8_ := Aside0.mk ((by rw [hg]; exact (below_size (by repeat (first | (with_reducible first | exact HB.out | apply below_alloc | apply pw_below_drewN | apply below_drew1 | refine below_set ?_ GE470.out | refine below_set ?_ GE471.out | refine below_set ?_ GE482.out) | exact HB.out))) : w.heap.size ≤ gb495)); have n9_ := Aside0.mk ((by rw [hg]; exact Nat.ne_of_lt (blk_lt (g := gb470) (o := .cells #[.slice A0_0 l0_0.length c0_0] 26 (0, 0)) (by (with_reducible repeat (first | refine blk_drewN ?_ _ | refine blk_drew ?_ | refine blk_alloc ?_ _)); exact BK470.out)) : gb470 ≠ gb495)); have n10_ := Aside0.mk ((by rw [hg]; exact Nat.ne_of_gt (blk_lt (g := gb470) (o := .cells #[.slice A0_0 l0_0.length c0_0] 26 (0, 0)) (by (with_reducible repeat (first | refine blk_drewN ?_ _ | refine blk_drew ?_ | refine blk_alloc ?_ _)); exact BK470.out)) : gb495 ≠ gb470)); have n11_ := Aside0.mk ((by rw [hg]; exact Nat.ne_of_lt (blk_lt (g := gb471) (o := .cells #[.int .i64 a2_0, .int .i64 a2_1, .int .i64 a2_2, .int .i64 a2_3, .int .i64 a2_4, .int .i64 a2_5, .int .i64 a2_6, .string a2_7] 23 (0, 0)) (by (with_reducible repeat (first | refine blk_drewN ?_ _ | refine blk_drew ?_ | refine blk_alloc ?_ _)); exact BK471.out)) : gb471 ≠ gb495)); have n12_ := Aside0.mk ((by rw [hg]; exact Nat.ne_of_gt (blk_lt (g := gb471) (o := .cells #[.int .i64 a2_0, .int .i64 a2_1, .int .i64 a2_2, .int .i64 a2_3, .int .i64 a2_4, .int .i64 a2_5, .int .i64 a2_6, .string a2_7] 23 (0, 0)) (by (with_reducible repeat (first | refine blk_drewN ?_ _ | refine blk_drew ?_ | refine blk_alloc ?_ _)); exact BK471.out)) : gb495 ≠ gb471)); have n13_ := Aside0.mk ((by rw [hg]; exact Nat.ne_of_lt (blk_lt (g := gb482) (o := .cells #[.slice Ao32 t478.length co32] 26 (0, 0)) (by (with_reducible repeat (first | refine blk_drewN ?_ _ | refine blk_drew ?_ | refine blk_alloc ?_ _)); exact BK482.out)) : gb482 ≠ gb495)); have n14_ := Aside0.mk ((by rw [hg]; exact Nat.ne_of_gt (blk_lt (g := gb482) (o := .cells #[.slice Ao32 t478.length co32] 26 (0, 0)) (by (with_reducible repeat (first | refine blk_drewN ?_ _ | refine blk_drew ?_ | refine blk_alloc ?_ _)); exact BK482.out)) : gb495 ≠ gb482)); clear HO480; clear HO485; clear BK470; clear BK471; clear BK482; clear HB; have HO480 := n0_; have HO485 := n1_; have BK470 := n2_; have BK471 := n3_; have BK482 := n4_; have HB := n5_; have BK495 := n6_; have GW495 := n7_; have GE495 := n8_; have NB470_495 := n9_; have NB495_470 := n10_; have NB471_495 := n11_; have NB495_471 := n12_; have NB482_495 := n13_; have NB495_482 := n14_; clear n0_ n1_ n2_ n3_ n4_ n5_ n6_ n7_ n8_ n9_ n10_ n11_ n12_ n13_ n14_; clear hb hbox hg) | ((with_reducible refine gate_dst (N := 10) rfl ?_); (try (refine gate_guard (by rfl) ?_; dsimp only)); refine box_event ?hg (N := 10) ?hd (cs := #[.int .i64 0, .int .i64 0, .int .i64 0, .int .i64 0, .int .i64 0, .int .i64 0, .int .i64 0, .string (⟨#[]⟩ : ByteArray)]) (t := 23) ?hr ?_; (case hd => rfl); (case hg => rfl); (case hr => first | (go_simp; done) | (go_simp; rfl)); intro gb496 hg w53 hbox hb; have n0_ := Aside0.mk (Kd.R_below (Kd.R_elderB (by (with_reducible repeat (first | apply Kd.R_alloc | apply Kd.R_drewN | apply Kd.R_drew)); exact HO480.out) gb496 (Nat.le_of_eq hg.symm)) hb); have n1_ := Aside0.mk (Kd.V_below (Kd.V_elderB (by (with_reducible repeat (first | apply Kd.V_alloc | apply Kd.V_drewN | apply Kd.V_drew)); exact HO485.out) gb496 (Nat.le_of_eq hg.symm)) hb); have n2_ := Aside0.mk (blk_below (g := gb470) (o := .cells #[.slice A0_0 l0_0.length c0_0] 26 (0, 0)) (by (with_reducible repeat (first | refine blk_drewN ?_ _ | refine blk_drew ?_ | refine blk_alloc ?_ _)); exact BK470.out) hb); have n3_ := Aside0.mk (blk_below (g := gb471) (o := .cells #[.int .i64 a2_0, .int .i64 a2_1, .int .i64 a2_2, .int .i64 a2_3, .int .i64 a2_4, .int .i64 a2_5, .int .i64 a2_6, .string a2_7] 23 (0, 0)) (by (with_reducible repeat (first | refine blk_drewN ?_ _ | refine blk_drew ?_ | refine blk_alloc ?_ _)); exact BK471.out) hb); have n4_ := Aside0.mk (blk_below (g := gb482) (o := .cells #[.slice Ao32 t478.length co32] 26 (0, 0)) (by (with_reducible repeat (first | refine blk_drewN ?_ _ | refine blk_drew ?_ | refine blk_alloc ?_ _)); exact BK482.out) hb); have n5_ := Aside0.mk (blk_below (g := gb495) (o := .cells #[.slice none 0 0] 26 (0, 0)) (by (with_reducible repeat (first | refine blk_drewN ?_ _ | refine blk_drew ?_ | refine blk_alloc ?_ _)); exact BK495.out) hb); have n6_ := Aside0.mk (below_step (by repeat (first | (with_reducible first | exact HB.out | apply below_alloc | apply pw_below_drewN | apply below_drew1 | refine below_set ?_ GE470.out | refine below_set ?_ GE471.out | refine below_set ?_ GE482.out | refine below_set ?_ GE495.out) | exact HB.out)) hb); have n7_ := Aside0.mk (hbox); have n8_ := Aside0.mk ((by rw [hg]; exact (below_size (by repeat (first | (with_reducible first | exact HB.out | apply below_alloc | apply pw_below_drewN | apply below_drew1 | refine below_set ?_ GE470.out | refine below_set ?_ GE471.out | refine below_set ?_ GE482.out | refine below_set ?_ GE495.out) | exact HB.out))) : w.heap.size ≤ gb496)); have n9_ := Aside0.mk ((by rw [hg]; exact (below_size (by repeat (first | (with_reducible first | exact HB.out | apply below_alloc | apply pw_below_drewN | apply below_drew1 | refine below_set ?_ GE470.out | refine below_set ?_ GE471.out | refine below_set ?_ GE482.out | refine below_set ?_ GE495.out) | exact HB.out))) : w.heap.size ≤ gb496)); have n10_ := Aside0.mk ((by rw [hg]; exact Nat.ne_of_lt (blk_lt (g := gb470) (o := .cells #[.slice A0_0 l0_0.length c0_0] 26 (0, 0)) (by (with_reducible repeat (first | refine blk_drewN ?_ _ | refine blk_drew ?_ | refine blk_alloc ?_ _)); exact BK470.out)) : gb470 ≠ gb496)); have n11_ := Aside0.mk ((by rw [hg]; exact Nat.ne_of_gt (blk_lt (g := gb470) (o := .cells #[.slice A0_0 l0_0.length c0_0] 26 (0, 0)) (by (with_reducible repeat (first | refine blk_drewN ?_ _ | refine blk_drew ?_ | refine blk_alloc ?_ _)); exact BK470.out)) : gb496 ≠ gb470)); have n12_ := Aside0.mk ((by rw [hg]; exact Nat.ne_of_lt (blk_lt (g := gb471) (o := .cells #[.int .i64 a2_0, .int .i64 a2_1, .int .i64 a2_2, .int .i64 a2_3, .int .i64 a2_4, .int .i64 a2_5, .int .i64 a2_6, .string a2_7] 23 (0, 0)) (by (with_reducible repeat (first | refine blk_drewN ?_ _ | refine blk_drew ?_ | refine blk_alloc ?_ _)); exact BK471.out)) : gb471 ≠ gb496)); have n13_ := Aside0.mk ((by rw [hg]; exact Nat.ne_of_gt (blk_lt (g := gb471) (o := .cells #[.int .i64 a2_0, .int .i64 a2_1, .int .i64 a2_2, .int .i64 a2_3, .int .i64 a2_4, .int .i64 a2_5, .int .i64 a2_6, .string a2_7] 23 (0, 0)) (by (with_reducible repeat (first | refine blk_drewN ?_ _ | refine blk_drew ?_ | refine blk_alloc ?_ _)); exact BK471.out)) : gb496 ≠ gb471)); have n14_ := Aside0.mk ((by rw [hg]; exact Nat.ne_of_lt (blk_lt (g := gb482) (o := .cells #[.slice Ao32 t478.length co32] 26 (0, 0)) (by (with_reducible repeat (first | refine blk_drewN ?_ _ | refine blk_drew ?_ | refine blk_alloc ?_ _)); exact BK482.out)) : gb482 ≠ gb496)); have n15_ := Aside0.mk ((by rw [hg]; exact Nat.ne_of_gt (blk_lt (g := gb482) (o := .cells #[.slice Ao32 t478.length co32] 26 (0, 0)) (by (with_reducible repeat (first | refine blk_drewN ?_ _ | refine blk_drew ?_ | refine blk_alloc ?_ _)); exact BK482.out)) : gb496 ≠ gb482)); have n16_ := Aside0.mk ((by rw [hg]; exact Nat.ne_of_lt (blk_lt (g := gb495) (o := .cells #[.slice none 0 0] 26 (0, 0)) (by (with_reducible repeat (first | refine blk_drewN ?_ _ | refine blk_drew ?_ | refine blk_alloc ?_ _)); exact BK495.out)) : gb495 ≠ gb496)); have n17_ := Aside0.mk ((by rw [hg]; exact Nat.ne_of_gt (blk_lt (g := gb495) (o := .cells #[.slice none 0 0] 26 (0, 0)) (by (with_reducible repeat (first | refine blk_drewN ?_ _ | refine blk_drew ?_ | refine blk_alloc ?_ _)); exact BK495.out)) : gb496 ≠ gb495)); clear HO480; clear HO485; clear BK470; clear BK471; clear BK482; clear BK495; clear HB; have HO480 := n0_; have HO485 := n1_; have BK470 := n2_; have BK471 := n3_; have BK482 := n4_; have BK495 := n5_; have HB := n6_; have BK496 := n7_; have GW496 := n8_; have GE496 := n9_; have NB470_496 := n10_; have NB496_470 := n11_; have NB471_496 := n12_; have NB496_471 := n13_; have NB482_496 := n14_; have NB496_482 := n15_; have NB495_496 := n16_; have NB496_495 := n17_; clear n0_ n1_ n2_ n3_ n4_ n5_ n6_ n7_ n8_ n9_ n10_ n11_ n12_ n13_ n14_ n15_ n16_ n17_; clear hb hbox hg; obtain ⟨Ao54, co54, eo54⟩ := Kd.V_slice HO485.out; subst eo54; have hnb55 := NB495_470.out; have hnc55 := NB470_495.out; have hnb56 := NB495_471.out; have hnc56 := NB471_495.out; have hnb57 := NB495_482.out; have hnc57 := NB482_495.out; have hnb58 := NB495_496.out; have hnc58 := NB496_495.out; have hcz59_0 : w53.cell? ⟨gb495, 0, none⟩ = some (.slice none 0 0) := (blk_cell BK495.out 0).trans rfl; have hfz59_0 := blk_frozen BK495.out 0; have hnb60 := NB496_470.out; have hnc60 := NB470_496.out; have hnb61 := NB496_471.out; have hnc61 := NB471_496.out; have hnb62 := NB496_482.out; have hnc62 := NB482_496.out; have hcz63_0 : w53.cell? ⟨gb496, 0, none⟩ = some (.int .i64 0) := (blk_cell BK496.out 0).trans rfl; have hcz63_1 : w53.cell? ⟨gb496, 1, none⟩ = some (.int .i64 0) := (blk_cell BK496.out 1).trans rfl; have hcz63_2 : w53.cell? ⟨gb496, 2, none⟩ = some (.int .i64 0) := (blk_cell BK496.out 2).trans rfl; have hcz63_3 : w53.cell? ⟨gb496, 3, none⟩ = some (.int .i64 0) := (blk_cell BK496.out 3).trans rfl; have hcz63_4 : w53.cell? ⟨gb496, 4, none⟩ = some (.int .i64 0) := (blk_cell BK496.out 4).trans rfl; have hcz63_5 : w53.cell? ⟨gb496, 5, none⟩ = some (.int .i64 0) := (blk_cell BK496.out 5).trans rfl; have hcz63_6 : w53.cell? ⟨gb496, 6, none⟩ = some (.int .i64 0) := (blk_cell BK496.out 6).trans rfl; have hcz63_7 : w53.cell? ⟨gb496, 7, none⟩ = some (.string (⟨#[]⟩ : ByteArray)) := (blk_cell BK496.out 7).trans rfl; have hfz63_0 := blk_frozen BK496.out 0; have hfz63_1 := blk_frozen BK496.out 1; have hfz63_2 := blk_frozen BK496.out 2; have hfz63_3 := blk_frozen BK496.out 3; have hfz63_4 := blk_frozen BK496.out 4; have hfz63_5 := blk_frozen BK496.out 5; have hfz63_6 := blk_frozen BK496.out 6; have hfz63_7 := blk_frozen BK496.out 7))
             have n0_ : Aside0 (Kd.R k23 23 (((((((((w53.setCell ⟨gb495, 0, none⟩ (.slice Ao54 t483.length co54)).setCell ⟨gb496, 0, none⟩ (.int .i64 t486)).setCell ⟨gb496, 1, none⟩ (.int .i64 t487)).setCell ⟨gb496, 2, none⟩ (.int .i64 t488)).setCell ⟨gb496, 3, none⟩ (.int .i64 t489)).setCell ⟨gb496, 4, none⟩ (.int .i64 t490)).setCell ⟨gb496, 5, none⟩ (.int .i64 t491)).setCell ⟨gb496, 6, none⟩ (.int .i64 t492)).setCell ⟨gb496, 7, none⟩ (.string t493)) w.heap.size (fun k_ => k_ ≠ gb471 ∧ k_ ≠ gb496) (.slice Ao32 t478.length co32) t478) := ⟨by (with_reducible repeat (first | apply Kd.R_alloc | apply Kd.R_drewN | apply Kd.R_drew)); exact Kd.R_mono (Kd.R_far (p := ⟨gb496, 7, none⟩) (Kd.R_far (p := ⟨gb496, 6, none⟩) (Kd.R_far (p := ⟨gb496, 5, none⟩) (Kd.R_far (p := ⟨gb496, 4, none⟩) (Kd.R_far (p := ⟨gb496, 3, none⟩) (Kd.R_far (p := ⟨gb496, 2, none⟩) (Kd.R_far (p := ⟨gb496, 1, none⟩) (Kd.R_far (p := ⟨gb496, 0, none⟩) (Kd.R_far (p := ⟨gb495, 0, none⟩) (Kd.R_mono (Kd.R_types HO480.out BK495.out (by decide)) (fun k_ hk => (⟨hk, hk.1.2⟩ : _ ∧ k_ ≠ gb496))) (fun _ hk => hk.1.2) (.slice Ao54 t483.length co54)) (fun _ hk => hk.2) (.int .i64 t486)) (fun _ hk => hk.2) (.int .i64 t487)) (fun _ hk => hk.2) (.int .i64 t488)) (fun _ hk => hk.2) (.int .i64 t489)) (fun _ hk => hk.2) (.int .i64 t490)) (fun _ hk => hk.2) (.int .i64 t491)) (fun _ hk => hk.2) (.int .i64 t492)) (fun _ hk => hk.2) (.string t493)) (fun _ hk => ⟨hk.1.1.1.2, hk.1.1.2⟩)⟩
             have n1_ : Aside0 (Kd.V k23 23 (((((((((w53.setCell ⟨gb495, 0, none⟩ (.slice Ao54 t483.length co54)).setCell ⟨gb496, 0, none⟩ (.int .i64 t486)).setCell ⟨gb496, 1, none⟩ (.int .i64 t487)).setCell ⟨gb496, 2, none⟩ (.int .i64 t488)).setCell ⟨gb496, 3, none⟩ (.int .i64 t489)).setCell ⟨gb496, 4, none⟩ (.int .i64 t490)).setCell ⟨gb496, 5, none⟩ (.int .i64 t491)).setCell ⟨gb496, 6, none⟩ (.int .i64 t492)).setCell ⟨gb496, 7, none⟩ (.string t493)) w.heap.size (fun k_ => some k_ ≠ (.slice Ao32 t478.length co32 : Value).ownBlock ∧ k_ ≠ gb470 ∧ k_ ≠ gb471 ∧ k_ ≠ gb482 ∧ k_ ≠ gb495 ∧ k_ ≠ gb496) (.slice Ao54 t483.length co54) t483) := ⟨by (with_reducible repeat (first | apply Kd.V_alloc | apply Kd.V_drewN | apply Kd.V_drew)); exact Kd.V_mono (Kd.V_far (p := ⟨gb496, 7, none⟩) (Kd.V_far (p := ⟨gb496, 6, none⟩) (Kd.V_far (p := ⟨gb496, 5, none⟩) (Kd.V_far (p := ⟨gb496, 4, none⟩) (Kd.V_far (p := ⟨gb496, 3, none⟩) (Kd.V_far (p := ⟨gb496, 2, none⟩) (Kd.V_far (p := ⟨gb496, 1, none⟩) (Kd.V_far (p := ⟨gb496, 0, none⟩) (Kd.V_far (p := ⟨gb495, 0, none⟩) (Kd.V_mono (Kd.V_mono HO485.out (fun k_ hk => (⟨hk, hk.1.2⟩ : _ ∧ k_ ≠ gb495))) (fun k_ hk => (⟨hk, hk.1.2⟩ : _ ∧ k_ ≠ gb496))) (fun _ hk => hk.1.2) (.slice Ao54 t483.length co54)) (fun _ hk => hk.2) (.int .i64 t486)) (fun _ hk => hk.2) (.int .i64 t487)) (fun _ hk => hk.2) (.int .i64 t488)) (fun _ hk => hk.2) (.int .i64 t489)) (fun _ hk => hk.2) (.int .i64 t490)) (fun _ hk => hk.2) (.int .i64 t491)) (fun _ hk => hk.2) (.int .i64 t492)) (fun _ hk => hk.2) (.string t493)) (fun _ hk => ⟨hk.1.1.1.1.1, ⟨hk.1.1.1.1.2.1, ⟨hk.1.1.1.1.2.2.1, ⟨hk.1.1.1.1.2.2.2, ⟨hk.1.1.1.2, hk.1.1.2⟩⟩⟩⟩⟩)⟩
             have n2_ : Aside0 ((((((((((w53.setCell ⟨gb495, 0, none⟩ (.slice Ao54 t483.length co54)).setCell ⟨gb496, 0, none⟩ (.int .i64 t486)).setCell ⟨gb496, 1, none⟩ (.int .i64 t487)).setCell ⟨gb496, 2, none⟩ (.int .i64 t488)).setCell ⟨gb496, 3, none⟩ (.int .i64 t489)).setCell ⟨gb496, 4, none⟩ (.int .i64 t490)).setCell ⟨gb496, 5, none⟩ (.int .i64 t491)).setCell ⟨gb496, 6, none⟩ (.int .i64 t492)).setCell ⟨gb496, 7, none⟩ (.string t493)).heap[gb470]? = some (.cells #[.slice A0_0 l0_0.length c0_0] 26 (0, 0))) := ⟨by (with_reducible repeat (first | refine blk_drewN ?_ _ | refine blk_drew ?_ | refine blk_alloc ?_ _)); refine blk_far ?_ NB470_496.out _; (with_reducible repeat (first | refine blk_drewN ?_ _ | refine blk_drew ?_ | refine blk_alloc ?_ _)); refine blk_far ?_ NB470_496.out _; (with_reducible repeat (first | refine blk_drewN ?_ _ | refine blk_drew ?_ | refine blk_alloc ?_ _)); refine blk_far ?_ NB470_496.out _; (with_reducible repeat (first | refine blk_drewN ?_ _ | refine blk_drew ?_ | refine blk_alloc ?_ _)); refine blk_far ?_ NB470_496.out _; (with_reducible repeat (first | refine blk_drewN ?_ _ | refine blk_drew ?_ | refine blk_alloc ?_ _)); refine blk_far ?_ NB470_496.out _; (with_reducible repeat (first | refine blk_drewN ?_ _ | refine blk_drew ?_ | refine blk_alloc ?_ _)); refine blk_far ?_ NB470_496.out _; (with_reducible repeat (first | refine blk_drewN ?_ _ | refine blk_drew ?_ | refine blk_alloc ?_ _)); refine blk_far ?_ NB470_496.out _; (with_reducible repeat (first | refine blk_drewN ?_ _ | refine blk_drew ?_ | refine blk_alloc ?_ _)); refine blk_far ?_ NB470_496.out _; (with_reducible repeat (first | refine blk_drewN ?_ _ | refine blk_drew ?_ | refine blk_alloc ?_ _)); refine blk_far ?_ NB470_495.out _; (with_reducible repeat (first | refine blk_drewN ?_ _ | refine blk_drew ?_ | refine blk_alloc ?_ _)); exact BK470.out⟩
             have n3_ : Aside0 ((((((((((w53.setCell ⟨gb495, 0, none⟩ (.slice Ao54 t483.length co54)).setCell ⟨gb496, 0, none⟩ (.int .i64 t486)).setCell ⟨gb496, 1, none⟩ (.int .i64 t487)).setCell ⟨gb496, 2, none⟩ (.int .i64 t488)).setCell ⟨gb496, 3, none⟩ (.int .i64 t489)).setCell ⟨gb496, 4, none⟩ (.int .i64 t490)).setCell ⟨gb496, 5, none⟩ (.int .i64 t491)).setCell ⟨gb496, 6, none⟩ (.int .i64 t492)).setCell ⟨gb496, 7, none⟩ (.string t493)).heap[gb471]? = some (.cells #[.int .i64 a2_0, .int .i64 a2_1, .int .i64 a2_2, .int .i64 a2_3, .int .i64 a2_4, .int .i64 a2_5, .int .i64 a2_6, .string a2_7] 23 (0, 0))) := ⟨by (with_reducible repeat (first | refine blk_drewN ?_ _ | refine blk_drew ?_ | refine blk_alloc ?_ _)); refine blk_far ?_ NB471_496.out _; (with_reducible repeat (first | refine blk_drewN ?_ _ | refine blk_drew ?_ | refine blk_alloc ?_ _)); refine blk_far ?_ NB471_496.out _; (with_reducible repeat (first | refine blk_drewN ?_ _ | refine blk_drew ?_ | refine blk_alloc ?_ _)); refine blk_far ?_ NB471_496.out _; (with_reducible repeat (first | refine blk_drewN ?_ _ | refine blk_drew ?_ | refine blk_alloc ?_ _)); refine blk_far ?_ NB471_496.out _; (with_reducible repeat (first | refine blk_drewN ?_ _ | refine blk_drew ?_ | refine blk_alloc ?_ _)); refine blk_far ?_ NB471_496.out _; (with_reducible repeat (first | refine blk_drewN ?_ _ | refine blk_drew ?_ | refine blk_alloc ?_ _)); refine blk_far ?_ NB471_496.out _; (with_reducible repeat (first | refine blk_drewN ?_ _ | refine blk_drew ?_ | refine blk_alloc ?_ _)); refine blk_far ?_ NB471_496.out _; (with_reducible repeat (first | refine blk_drewN ?_ _ | refine blk_drew ?_ | refine blk_alloc ?_ _)); refine blk_far ?_ NB471_496.out _; (with_reducible repeat (first | refine blk_drewN ?_ _ | refine blk_drew ?_ | refine blk_alloc ?_ _)); refine blk_far ?_ NB471_495.out _; (with_reducible repeat (first | refine blk_drewN ?_ _ | refine blk_drew ?_ | refine blk_alloc ?_ _)); exact BK471.out⟩
             have n4_ : Aside0 ((((((((((w53.setCell ⟨gb495, 0, none⟩ (.slice Ao54 t483.length co54)).setCell ⟨gb496, 0, none⟩ (.int .i64 t486)).setCell ⟨gb496, 1, none⟩ (.int .i64 t487)).setCell ⟨gb496, 2, none⟩ (.int .i64 t488)).setCell ⟨gb496, 3, none⟩ (.int .i64 t489)).setCell ⟨gb496, 4, none⟩ (.int .i64 t490)).setCell ⟨gb496, 5, none⟩ (.int .i64 t491)).setCell ⟨gb496, 6, none⟩ (.int .i64 t492)).setCell ⟨gb496, 7, none⟩ (.string t493)).heap[gb482]? = some (.cells #[.slice Ao32 t478.length co32] 26 (0, 0))) := ⟨by (with_reducible repeat (first | refine blk_drewN ?_ _ | refine blk_drew ?_ | refine blk_alloc ?_ _)); refine blk_far ?_ NB482_496.out _; (with_reducible repeat (first | refine blk_drewN ?_ _ | refine blk_drew ?_ | refine blk_alloc ?_ _)); refine blk_far ?_ NB482_496.out _; (with_reducible repeat (first | refine blk_drewN ?_ _ | refine blk_drew ?_ | refine blk_alloc ?_ _)); refine blk_far ?_ NB482_496.out _; (with_reducible repeat (first | refine blk_drewN ?_ _ | refine blk_drew ?_ | refine blk_alloc ?_ _)); refine blk_far ?_ NB482_496.out _; (with_reducible repeat (first | refine blk_drewN ?_ _ | refine blk_drew ?_ | refine blk_alloc ?_ _)); refine blk_far ?_ NB482_496.out _; (with_reducible repeat (first | refine blk_drewN ?_ _ | refine blk_drew ?_ | refine blk_alloc ?_ _)); refine blk_far ?_ NB482_496.out _; (with_reducible repeat (first | refine blk_drewN ?_ _ | refine blk_drew ?_ | refine blk_alloc ?_ _)); refine blk_far ?_ NB482_496.out _; (with_reducible repeat (first | refine blk_drewN ?_ _ | refine blk_drew ?_ | refine blk_alloc ?_ _)); refine blk_far ?_ NB482_496.out _; (with_reducible repeat (first | refine blk_drewN ?_ _ | refine blk_drew ?_ | refine blk_alloc ?_ _)); refine blk_far ?_ NB482_495.out _; (with_reducible repeat (first | refine blk_drewN ?_ _ | refine blk_drew ?_ | refine blk_alloc ?_ _)); exact BK482.out⟩
             have n5_ : Aside0 ((((((((((w53.setCell ⟨gb495, 0, none⟩ (.slice Ao54 t483.length co54)).setCell ⟨gb496, 0, none⟩ (.int .i64 t486)).setCell ⟨gb496, 1, none⟩ (.int .i64 t487)).setCell ⟨gb496, 2, none⟩ (.int .i64 t488)).setCell ⟨gb496, 3, none⟩ (.int .i64 t489)).setCell ⟨gb496, 4, none⟩ (.int .i64 t490)).setCell ⟨gb496, 5, none⟩ (.int .i64 t491)).setCell ⟨gb496, 6, none⟩ (.int .i64 t492)).setCell ⟨gb496, 7, none⟩ (.string t493)).heap[gb495]? = some (.cells #[.slice Ao54 t483.length co54] 26 (0, 0))) := ⟨by (with_reducible repeat (first | refine blk_drewN ?_ _ | refine blk_drew ?_ | refine blk_alloc ?_ _)); refine blk_far ?_ NB495_496.out _; (with_reducible repeat (first | refine blk_drewN ?_ _ | refine blk_drew ?_ | refine blk_alloc ?_ _)); refine blk_far ?_ NB495_496.out _; (with_reducible repeat (first | refine blk_drewN ?_ _ | refine blk_drew ?_ | refine blk_alloc ?_ _)); refine blk_far ?_ NB495_496.out _; (with_reducible repeat (first | refine blk_drewN ?_ _ | refine blk_drew ?_ | refine blk_alloc ?_ _)); refine blk_far ?_ NB495_496.out _; (with_reducible repeat (first | refine blk_drewN ?_ _ | refine blk_drew ?_ | refine blk_alloc ?_ _)); refine blk_far ?_ NB495_496.out _; (with_reducible repeat (first | refine blk_drewN ?_ _ | refine blk_drew ?_ | refine blk_alloc ?_ _)); refine blk_far ?_ NB495_496.out _; (with_reducible repeat (first | refine blk_drewN ?_ _ | refine blk_drew ?_ | refine blk_alloc ?_ _)); refine blk_far ?_ NB495_496.out _; (with_reducible repeat (first | refine blk_drewN ?_ _ | refine blk_drew ?_ | refine blk_alloc ?_ _)); refine blk_far ?_ NB495_496.out _; (with_reducible repeat (first | refine blk_drewN ?_ _ | refine blk_drew ?_ | refine blk_alloc ?_ _)); refine blk_put (cs := #[.slice none 0 0]) ?_ 0 _ rfl; (with_reducible repeat (first | refine blk_drewN ?_ _ | refine blk_drew ?_ | refine blk_alloc ?_ _)); exact BK495.out⟩
             have n6_ : Aside0 ((((((((((w53.setCell ⟨gb495, 0, none⟩ (.slice Ao54 t483.length co54)).setCell ⟨gb496, 0, none⟩ (.int .i64 t486)).setCell ⟨gb496, 1, none⟩ (.int .i64 t487)).setCell ⟨gb496, 2, none⟩ (.int .i64 t488)).setCell ⟨gb496, 3, none⟩ (.int .i64 t489)).setCell ⟨gb496, 4, none⟩ (.int .i64 t490)).setCell ⟨gb496, 5, none⟩ (.int .i64 t491)).setCell ⟨gb496, 6, none⟩ (.int .i64 t492)).setCell ⟨gb496, 7, none⟩ (.string t493)).heap[gb496]? = some (.cells #[.int .i64 t486, .int .i64 t487, .int .i64 t488, .int .i64 t489, .int .i64 t490, .int .i64 t491, .int .i64 t492, .string t493] 23 (0, 0))) := ⟨by (with_reducible repeat (first | refine blk_drewN ?_ _ | refine blk_drew ?_ | refine blk_alloc ?_ _)); refine blk_put (cs := #[.int .i64 t486, .int .i64 t487, .int .i64 t488, .int .i64 t489, .int .i64 t490, .int .i64 t491, .int .i64 t492, .string (⟨#[]⟩ : ByteArray)]) ?_ 7 _ rfl; (with_reducible repeat (first | refine blk_drewN ?_ _ | refine blk_drew ?_ | refine blk_alloc ?_ _)); refine blk_put (cs := #[.int .i64 t486, .int .i64 t487, .int .i64 t488, .int .i64 t489, .int .i64 t490, .int .i64 t491, .int .i64 0, .string (⟨#[]⟩ : ByteArray)]) ?_ 6 _ rfl; (with_reducible repeat (first | refine blk_drewN ?_ _ | refine blk_drew ?_ | refine blk_alloc ?_ _)); refine blk_put (cs := #[.int .i64 t486, .int .i64 t487, .int .i64 t488, .int .i64 t489, .int .i64 t490, .int .i64 0, .int .i64 0, .string (⟨#[]⟩ : ByteArray)]) ?_ 5 _ rfl; (with_reducible repeat (first | refine blk_drewN ?_ _ | refine blk_drew ?_ | refine blk_alloc ?_ _)); refine blk_put (cs := #[.int .i64 t486, .int .i64 t487, .int .i64 t488, .int .i64 t489, .int .i64 0, .int .i64 0, .int .i64 0, .string (⟨#[]⟩ : ByteArray)]) ?_ 4 _ rfl; (with_reducible repeat (first | refine blk_drewN ?_ _ | refine blk_drew ?_ | refine blk_alloc ?_ _)); refine blk_put (cs := #[.int .i64 t486, .int .i64 t487, .int .i64 t488, .int .i64 0, .int .i64 0, .int .i64 0, .int .i64 0, .string (⟨#[]⟩ : ByteArray)]) ?_ 3 _ rfl; (with_reducible repeat (first | refine blk_drewN ?_ _ | refine blk_drew ?_ | refine blk_alloc ?_ _)); refine blk_put (cs := #[.int .i64 t486, .int .i64 t487, .int .i64 0, .int .i64 0, .int .i64 0, .int .i64 0, .int .i64 0, .string (⟨#[]⟩ : ByteArray)]) ?_ 2 _ rfl; (with_reducible repeat (first | refine blk_drewN ?_ _ | refine blk_drew ?_ | refine blk_alloc ?_ _)); refine blk_put (cs := #[.int .i64 t486, .int .i64 0, .int .i64 0, .int .i64 0, .int .i64 0, .int .i64 0, .int .i64 0, .string (⟨#[]⟩ : ByteArray)]) ?_ 1 _ rfl; (with_reducible repeat (first | refine blk_drewN ?_ _ | refine blk_drew ?_ | refine blk_alloc ?_ _)); refine blk_put (cs := #[.int .i64 0, .int .i64 0, .int .i64 0, .int .i64 0, .int .i64 0, .int .i64 0, .int .i64 0, .string (⟨#[]⟩ : ByteArray)]) ?_ 0 _ rfl; (with_reducible repeat (first | refine blk_drewN ?_ _ | refine blk_drew ?_ | refine blk_alloc ?_ _)); refine blk_far ?_ NB496_495.out _; (with_reducible repeat (first | refine blk_drewN ?_ _ | refine blk_drew ?_ | refine blk_alloc ?_ _)); exact BK496.out⟩
             have n7_ : Aside0 (Below w.heap.size w (((((((((w53.setCell ⟨gb495, 0, none⟩ (.slice Ao54 t483.length co54)).setCell ⟨gb496, 0, none⟩ (.int .i64 t486)).setCell ⟨gb496, 1, none⟩ (.int .i64 t487)).setCell ⟨gb496, 2, none⟩ (.int .i64 t488)).setCell ⟨gb496, 3, none⟩ (.int .i64 t489)).setCell ⟨gb496, 4, none⟩ (.int .i64 t490)).setCell ⟨gb496, 5, none⟩ (.int .i64 t491)).setCell ⟨gb496, 6, none⟩ (.int .i64 t492)).setCell ⟨gb496, 7, none⟩ (.string t493))) := ⟨by repeat (first | (with_reducible first | exact HB.out | apply below_alloc | apply pw_below_drewN | apply below_drew1 | refine below_set ?_ GE470.out | refine below_set ?_ GE471.out | refine below_set ?_ GE482.out | refine below_set ?_ GE495.out | refine below_set ?_ GE496.out) | exact HB.out)⟩
             (try clear HO480)
             (try clear HO485)
             (try clear BK470)
             (try clear BK471)
             (try clear BK482)
             (try clear BK495)
             (try clear BK496)
             (try clear HB)
             generalize (((((((((w53.setCell ⟨gb495, 0, none⟩ (.slice Ao54 t483.length co54)).setCell ⟨gb496, 0, none⟩ (.int .i64 t486)).setCell ⟨gb496, 1, none⟩ (.int .i64 t487)).setCell ⟨gb496, 2, none⟩ (.int .i64 t488)).setCell ⟨gb496, 3, none⟩ (.int .i64 t489)).setCell ⟨gb496, 4, none⟩ (.int .i64 t490)).setCell ⟨gb496, 5, none⟩ (.int .i64 t491)).setCell ⟨gb496, 6, none⟩ (.int .i64 t492)).setCell ⟨gb496, 7, none⟩ (.string t493)) = w64 at n0_ n1_ n2_ n3_ n4_ n5_ n6_ n7_ ⊢
             have HO480 := n0_
             have HO485 := n1_
             have BK470 := n2_
             have BK471 := n3_
             have BK482 := n4_
             have BK495 := n5_
             have BK496 := n6_
             have HB := n7_
             clear n0_ n1_ n2_ n3_ n4_ n5_ n6_ n7_
             have n0_ := Aside0.mk (Kd.R_drew HO480.out)
             have n1_ := Aside0.mk (Kd.V_drew HO485.out)
             have n2_ := Aside0.mk (blk_drew BK470.out)
             have n3_ := Aside0.mk (blk_drew BK471.out)
             have n4_ := Aside0.mk (blk_drew BK482.out)
             have n5_ := Aside0.mk (blk_drew BK495.out)
             have n6_ := Aside0.mk (blk_drew BK496.out)
             have n7_ := Aside0.mk (below_drew1 HB.out)
             clear HO480
             clear HO485
             clear BK470
             clear BK471
             clear BK482
             clear BK495
             clear BK496
             clear HB
             have HO480 := n0_
             have HO485 := n1_
             have BK470 := n2_
             have BK471 := n3_
             have BK482 := n4_
             have BK495 := n5_
             have BK496 := n6_
             have HB := n7_
             clear n0_ n1_ n2_ n3_ n4_ n5_ n6_ n7_
             have p497 : 0 ≤ (a1 : Int) := of_decide_eq_true (by first | (with_reducible assumption) | assumption)
             have q497 : a1 < (l0_0.length : Int) := of_decide_eq_true (by first | (with_reducible assumption) | assumption)
             obtain ⟨ad497, e497, hx497_0, hx497_1, hx497_2, hx497_3, hx497_4, hx497_5, hx497_6, hx497_7⟩ := at_T23 HR0_0.out a1 p497 q497
             have hw497_7 := hx497_7
             have hw497_6 := hx497_6
             have hw497_5 := hx497_5
             have hw497_4 := hx497_4
             have hw497_3 := hx497_3
             have hw497_2 := hx497_2
             have hw497_1 := hx497_1
             have hw497_0 := hx497_0
             cases e497
             replace hx497_0 := (HB.out.cell (World.block_lt_of_cell? w _ hx497_0)).trans hx497_0
             replace hx497_1 := (HB.out.cell (World.block_lt_of_cell? w _ hx497_1)).trans hx497_1
             replace hx497_2 := (HB.out.cell (World.block_lt_of_cell? w _ hx497_2)).trans hx497_2
             replace hx497_3 := (HB.out.cell (World.block_lt_of_cell? w _ hx497_3)).trans hx497_3
             replace hx497_4 := (HB.out.cell (World.block_lt_of_cell? w _ hx497_4)).trans hx497_4
             replace hx497_5 := (HB.out.cell (World.block_lt_of_cell? w _ hx497_5)).trans hx497_5
             replace hx497_6 := (HB.out.cell (World.block_lt_of_cell? w _ hx497_6)).trans hx497_6
             replace hx497_7 := (HB.out.cell (World.block_lt_of_cell? w _ hx497_7)).trans hx497_7
             replace p497 := eq_true p497
             replace q497 := eq_true q497
             refine start_ (n := 32) (S := fun w' => w'.cell? ⟨gb470, 0, none⟩ = some (.slice (some ad497) l0_0.length c0_0) ∧ w'.cell? ⟨gb496, 0, none⟩ = some (.int .i64 t486) ∧ w'.cell? ⟨gb496, 1, none⟩ = some (.int .i64 t487) ∧ w'.cell? ⟨gb496, 2, none⟩ = some (.int .i64 t488) ∧ w'.cell? ⟨gb496, 3, none⟩ = some (.int .i64 t489) ∧ w'.cell? ⟨gb496, 4, none⟩ = some (.int .i64 t490) ∧ w'.cell? ⟨gb496, 5, none⟩ = some (.int .i64 t491) ∧ w'.cell? ⟨gb496, 6, none⟩ = some (.int .i64 t492) ∧ w'.cell? ⟨gb496, 7, none⟩ = some (.string t493) ∧ w'.cell? ⟨gb495, 0, none⟩ = some (.slice Ao54 t483.length co54) ∧ w'.cell? (ad497.add ((a1).toNat * 8)) = some (.int .i64 ((rd_T23 l0_0 a1).f0)) ∧ w'.cell? ⟨(ad497.add ((a1).toNat * 8)).block, (ad497.add ((a1).toNat * 8)).off + 1, none⟩ = some (.int .i64 ((rd_T23 l0_0 a1).f1)) ∧ w'.cell? ⟨(ad497.add ((a1).toNat * 8)).block, (ad497.add ((a1).toNat * 8)).off + 2, none⟩ = some (.int .i64 ((rd_T23 l0_0 a1).f2)) ∧ w'.cell? ⟨(ad497.add ((a1).toNat * 8)).block, (ad497.add ((a1).toNat * 8)).off + 3, none⟩ = some (.int .i64 ((rd_T23 l0_0 a1).f3)) ∧ w'.cell? ⟨(ad497.add ((a1).toNat * 8)).block, (ad497.add ((a1).toNat * 8)).off + 4, none⟩ = some (.int .i64 ((rd_T23 l0_0 a1).f4)) ∧ w'.cell? ⟨(ad497.add ((a1).toNat * 8)).block, (ad497.add ((a1).toNat * 8)).off + 5, none⟩ = some (.int .i64 ((rd_T23 l0_0 a1).f5)) ∧ w'.cell? ⟨(ad497.add ((a1).toNat * 8)).block, (ad497.add ((a1).toNat * 8)).off + 6, none⟩ = some (.int .i64 ((rd_T23 l0_0 a1).f6)) ∧ w'.cell? ⟨(ad497.add ((a1).toNat * 8)).block, (ad497.add ((a1).toNat * 8)).off + 7, none⟩ = some (.string ((rd_T23 l0_0 a1).f7))) (ds := []) #[false, false, false, false, false, false, false, false, false, false, false, false, false, false, false, false, false, false, false, false, false, false, false, false, false, false, false, false, false, false, false, false] (by kernel_rfl) rfl rfl ⟨(blk_cell BK470.out 0).trans rfl, (blk_cell BK496.out 0).trans rfl, (blk_cell BK496.out 1).trans rfl, (blk_cell BK496.out 2).trans rfl, (blk_cell BK496.out 3).trans rfl, (blk_cell BK496.out 4).trans rfl, (blk_cell BK496.out 5).trans rfl, (blk_cell BK496.out 6).trans rfl, (blk_cell BK496.out 7).trans rfl, (blk_cell BK495.out 0).trans rfl, ((HB.out.cell (World.block_lt_of_cell? w _ hw497_0)).trans hw497_0), ((HB.out.cell (World.block_lt_of_cell? w _ hw497_1)).trans hw497_1), ((HB.out.cell (World.block_lt_of_cell? w _ hw497_2)).trans hw497_2), ((HB.out.cell (World.block_lt_of_cell? w _ hw497_3)).trans hw497_3), ((HB.out.cell (World.block_lt_of_cell? w _ hw497_4)).trans hw497_4), ((HB.out.cell (World.block_lt_of_cell? w _ hw497_5)).trans hw497_5), ((HB.out.cell (World.block_lt_of_cell? w _ hw497_6)).trans hw497_6), ((HB.out.cell (World.block_lt_of_cell? w _ hw497_7)).trans hw497_7)⟩ (fun hHeld => ?_); refine with_tabW haywainlaw22_NetAgain.tab6 haywainlaw22_NetAgain.bits6 (fun HT_ HW_ => ?_)
             generalize w64.drew = w65 at HO480 HO485 BK470 BK471 BK482 BK495 BK496 HB hx497_0 hx497_1 hx497_2 hx497_3 hx497_4 hx497_5 hx497_6 hx497_7 hHeld ⊢
             refine pure_ (i := 0) (N := some 49) (v := ?_) (a' := ?_) #[true, false, false, false, false, false, false, false, false, false, false, false, false, false, false, false, false, false, false, false, false, false, false, false, false, false, false, false, false, false, false, false] rfl rfl (any_of HT_.out (by kernel_rfl)) (fun _ _ _ h => h) (Or.inl ⟨by rfl, ?_⟩) ?_ ?_
             rotate_left
             ·intro w'
              go_simp
              with_reducible rfl
             rotate_left
             ·simp only [Act.put, List.setIfInBounds_toArray, List.set_cons_zero, List.set_cons_succ, i64_w, i32_w]
              rfl
             refine pure_ (i := 1) (N := some 50) (v := ?_) (a' := ?_) #[true, true, false, false, false, false, false, false, false, false, false, false, false, false, false, false, false, false, false, false, false, false, false, false, false, false, false, false, false, false, false, false] rfl rfl (any_of HT_.out (by kernel_rfl)) (fun _ _ _ h => h) (Or.inl ⟨by rfl, ?_⟩) ?_ ?_
             rotate_left
             ·intro w'
              go_simp
              with_reducible rfl
             rotate_left
             ·simp only [Act.put, List.setIfInBounds_toArray, List.set_cons_zero, List.set_cons_succ, i64_w, i32_w]
              rfl
             refine pure_ (i := 2) (N := some 51) (v := ?_) (a' := ?_) #[true, true, true, false, false, false, false, false, false, false, false, false, false, false, false, false, false, false, false, false, false, false, false, false, false, false, false, false, false, false, false, false] rfl rfl (any_of HT_.out (by kernel_rfl)) (fun _ _ _ h => h) (Or.inl ⟨by rfl, ?_⟩) ?_ ?_
             rotate_left
             ·intro w'
              go_simp
              with_reducible rfl
             rotate_left
             ·simp only [Act.put, List.setIfInBounds_toArray, List.set_cons_zero, List.set_cons_succ, i64_w, i32_w]
              rfl
             refine pure_ (i := 3) (N := some 52) (v := ?_) (a' := ?_) #[true, true, true, true, false, false, false, false, false, false, false, false, false, false, false, false, false, false, false, false, false, false, false, false, false, false, false, false, false, false, false, false] rfl rfl (any_of HT_.out (by kernel_rfl)) (fun _ _ _ h => h) (Or.inl ⟨by rfl, ?_⟩) ?_ ?_
             rotate_left
             ·intro w'
              go_simp
              with_reducible rfl
             rotate_left
             ·simp only [Act.put, List.setIfInBounds_toArray, List.set_cons_zero, List.set_cons_succ, i64_w, i32_w]
              rfl
             refine pure_ (i := 4) (N := some 53) (v := ?_) (a' := ?_) #[true, true, true, true, true, false, false, false, false, false, false, false, false, false, false, false, false, false, false, false, false, false, false, false, false, false, false, false, false, false, false, false] rfl rfl (any_of HT_.out (by kernel_rfl)) (fun _ _ _ h => h) (Or.inl ⟨by rfl, ?_⟩) ?_ ?_
             rotate_left
             ·intro w'
              go_simp
              with_reducible rfl
             rotate_left
             ·simp only [Act.put, List.setIfInBounds_toArray, List.set_cons_zero, List.set_cons_succ, i64_w, i32_w]
              rfl
             refine pure_ (i := 5) (N := some 54) (v := ?_) (a' := ?_) #[true, true, true, true, true, true, false, false, false, false, false, false, false, false, false, false, false, false, false, false, false, false, false, false, false, false, false, false, false, false, false, false] rfl rfl (any_of HT_.out (by kernel_rfl)) (fun _ _ _ h => h) (Or.inl ⟨by rfl, ?_⟩) ?_ ?_
             rotate_left
             ·intro w'
              go_simp
              with_reducible rfl
             rotate_left
             ·simp only [Act.put, List.setIfInBounds_toArray, List.set_cons_zero, List.set_cons_succ, i64_w, i32_w]
              rfl
             refine pure_ (i := 6) (N := some 55) (v := ?_) (a' := ?_) #[true, true, true, true, true, true, true, false, false, false, false, false, false, false, false, false, false, false, false, false, false, false, false, false, false, false, false, false, false, false, false, false] rfl rfl (any_of HT_.out (by kernel_rfl)) (fun _ _ _ h => h) (Or.inl ⟨by rfl, ?_⟩) ?_ ?_
             rotate_left
             ·intro w'
              go_simp
              with_reducible rfl
             rotate_left
             ·simp only [Act.put, List.setIfInBounds_toArray, List.set_cons_zero, List.set_cons_succ, i64_w, i32_w]
              rfl
             refine pure_ (i := 7) (N := some 56) (v := ?_) (a' := ?_) #[true, true, true, true, true, true, true, true, false, false, false, false, false, false, false, false, false, false, false, false, false, false, false, false, false, false, false, false, false, false, false, false] rfl rfl (any_of HT_.out (by kernel_rfl)) (fun _ _ _ h => h) (Or.inl ⟨by rfl, ?_⟩) ?_ ?_
             rotate_left
             ·intro w'
              go_simp
              with_reducible rfl
             rotate_left
             ·simp only [Act.put, List.setIfInBounds_toArray, List.set_cons_zero, List.set_cons_succ, i64_w, i32_w]
              rfl
             refine pure_ (i := 8) (N := some 57) (v := ?_) (a' := ?_) #[true, true, true, true, true, true, true, true, true, false, false, false, false, false, false, false, false, false, false, false, false, false, false, false, false, false, false, false, false, false, false, false] rfl rfl (any_of HT_.out (by kernel_rfl)) (fun _ _ _ h => h) (Or.inl ⟨by rfl, ?_⟩) ?_ ?_
             rotate_left
             ·intro w'
              go_simp
              with_reducible rfl
             rotate_left
             ·simp only [Act.put, List.setIfInBounds_toArray, List.set_cons_zero, List.set_cons_succ, i64_w, i32_w]
              rfl
             refine take_ (i := 9) (N := some 58) (v := ?_) (a' := ?_) #[true, true, true, true, true, true, true, true, true, true, false, false, false, false, false, false, false, false, false, false, false, false, false, false, false, false, false, false, false, false, false, false] rfl rfl (take_ofW HT_.out HW_.out (by kernel_rfl)) (fun _ _ _ h => h) (Or.inl ⟨by rfl, ?_⟩) hHeld ?_ ?_
             rotate_left
             ·rintro w' ⟨s0, s1, s2, s3, s4, s5, s6, s7, s8, s9, s10, s11, s12, s13, s14, s15, s16, s17⟩
              go_simp
              with_reducible rfl
             rotate_left
             ·simp only [Act.put, List.setIfInBounds_toArray, List.set_cons_zero, List.set_cons_succ, i64_w, i32_w]
              rfl
             refine pure_ (i := 10) (N := some 59) (v := ?_) (a' := ?_) #[true, true, true, true, true, true, true, true, true, true, true, false, false, false, false, false, false, false, false, false, false, false, false, false, false, false, false, false, false, false, false, false] rfl rfl (any_of HT_.out (by kernel_rfl)) (fun _ _ _ h => h) (Or.inl ⟨by rfl, ?_⟩) ?_ ?_
             rotate_left
             ·intro w'
              go_simp
              with_reducible rfl
             rotate_left
             ·simp only [Act.put, List.setIfInBounds_toArray, List.set_cons_zero, List.set_cons_succ, i64_w, i32_w]
              rfl
             refine pure_ (i := 11) (N := some 60) (v := ?_) (a' := ?_) #[true, true, true, true, true, true, true, true, true, true, true, true, false, false, false, false, false, false, false, false, false, false, false, false, false, false, false, false, false, false, false, false] rfl rfl (any_of HT_.out (by kernel_rfl)) (fun _ _ _ h => h) (Or.inl ⟨by rfl, ?_⟩) ?_ ?_
             rotate_left
             ·intro w'
              go_simp
              with_reducible rfl
             rotate_left
             ·simp only [Act.put, List.setIfInBounds_toArray, List.set_cons_zero, List.set_cons_succ, i64_w, i32_w]
              rfl
             refine pure_ (i := 12) (N := some 61) (v := ?_) (a' := ?_) #[true, true, true, true, true, true, true, true, true, true, true, true, true, false, false, false, false, false, false, false, false, false, false, false, false, false, false, false, false, false, false, false] rfl rfl (any_of HT_.out (by kernel_rfl)) (fun _ _ _ h => h) (Or.inl ⟨by rfl, ?_⟩) ?_ ?_
             rotate_left
             ·intro w'
              go_simp
              with_reducible rfl
             rotate_left
             ·simp only [Act.put, List.setIfInBounds_toArray, List.set_cons_zero, List.set_cons_succ, i64_w, i32_w]
              rfl
             refine pure_ (i := 13) (N := some 62) (v := ?_) (a' := ?_) #[true, true, true, true, true, true, true, true, true, true, true, true, true, true, false, false, false, false, false, false, false, false, false, false, false, false, false, false, false, false, false, false] rfl rfl (any_of HT_.out (by kernel_rfl)) (fun _ _ _ h => h) (Or.inl ⟨by rfl, ?_⟩) ?_ ?_
             rotate_left
             ·intro w'
              go_simp
              with_reducible rfl
             rotate_left
             ·simp only [Act.put, List.setIfInBounds_toArray, List.set_cons_zero, List.set_cons_succ, i64_w, i32_w]
              rfl
             refine pure_ (i := 15) (N := some 64) (v := ?_) (a' := ?_) #[true, true, true, true, true, true, true, true, true, true, true, true, true, true, false, true, false, false, false, false, false, false, false, false, false, false, false, false, false, false, false, false] rfl rfl (any_of HT_.out (by kernel_rfl)) (fun _ _ _ h => h) (Or.inl ⟨by rfl, ?_⟩) ?_ ?_
             rotate_left
             ·intro w'
              go_simp
              with_reducible rfl
             rotate_left
             ·simp only [Act.put, List.setIfInBounds_toArray, List.set_cons_zero, List.set_cons_succ, i64_w, i32_w]
              rfl
             refine pure_ (i := 17) (N := some 66) (v := ?_) (a' := ?_) #[true, true, true, true, true, true, true, true, true, true, true, true, true, true, false, true, false, true, false, false, false, false, false, false, false, false, false, false, false, false, false, false] rfl rfl (any_of HT_.out (by kernel_rfl)) (fun _ _ _ h => h) (Or.inl ⟨by rfl, ?_⟩) ?_ ?_
             rotate_left
             ·intro w'
              go_simp
              with_reducible rfl
             rotate_left
             ·simp only [Act.put, List.setIfInBounds_toArray, List.set_cons_zero, List.set_cons_succ, i64_w, i32_w]
              rfl
             refine take_ (i := 14) (N := some 63) (v := ?_) (a' := ?_) #[true, true, true, true, true, true, true, true, true, true, true, true, true, true, true, true, false, true, false, false, false, false, false, false, false, false, false, false, false, false, false, false] rfl rfl (take_ofW HT_.out HW_.out (by kernel_rfl)) (fun _ _ _ h => h) (Or.inl ⟨by rfl, ?_⟩) hHeld ?_ ?_
             rotate_left
             ·rintro w' ⟨s0, s1, s2, s3, s4, s5, s6, s7, s8, s9, s10, s11, s12, s13, s14, s15, s16, s17⟩
              go_simp
              with_reducible rfl
             rotate_left
             ·simp only [Act.put, List.setIfInBounds_toArray, List.set_cons_zero, List.set_cons_succ, i64_w, i32_w]
              rfl
             refine take_ (i := 16) (N := some 65) (v := ?_) (a' := ?_) #[true, true, true, true, true, true, true, true, true, true, true, true, true, true, true, true, true, true, false, false, false, false, false, false, false, false, false, false, false, false, false, false] rfl rfl (take_ofW HT_.out HW_.out (by kernel_rfl)) (fun _ _ _ h => h) (Or.inl ⟨by rfl, ?_⟩) hHeld ?_ ?_
             rotate_left
             ·rintro w' ⟨s0, s1, s2, s3, s4, s5, s6, s7, s8, s9, s10, s11, s12, s13, s14, s15, s16, s17⟩
              go_simp
              with_reducible rfl
             rotate_left
             ·simp only [Act.put, List.setIfInBounds_toArray, List.set_cons_zero, List.set_cons_succ, i64_w, i32_w]
              rfl
             refine pure_ (i := 18) (N := some 67) (v := ?_) (a' := ?_) #[true, true, true, true, true, true, true, true, true, true, true, true, true, true, true, true, true, true, true, false, false, false, false, false, false, false, false, false, false, false, false, false] rfl rfl (any_of HT_.out (by kernel_rfl)) (fun _ _ _ h => h) (Or.inl ⟨by rfl, ?_⟩) ?_ ?_
             rotate_left
             ·intro w'
              go_simp
              with_reducible rfl
             rotate_left
             ·simp only [Act.put, List.setIfInBounds_toArray, List.set_cons_zero, List.set_cons_succ, i64_w, i32_w]
              rfl
             refine take_ (i := 19) (N := some 68) (v := ?_) (a' := ?_) #[true, true, true, true, true, true, true, true, true, true, true, true, true, true, true, true, true, true, true, true, false, false, false, false, false, false, false, false, false, false, false, false] rfl rfl (take_ofW HT_.out HW_.out (by kernel_rfl)) (fun _ _ _ h => h) (Or.inl ⟨by rfl, ?_⟩) hHeld ?_ ?_
             rotate_left
             ·rintro w' ⟨s0, s1, s2, s3, s4, s5, s6, s7, s8, s9, s10, s11, s12, s13, s14, s15, s16, s17⟩
              go_simp
              with_reducible rfl
             rotate_left
             ·simp only [Act.put, List.setIfInBounds_toArray, List.set_cons_zero, List.set_cons_succ, i64_w, i32_w]
              rfl
             refine pure_ (i := 20) (N := some 69) (v := ?_) (a' := ?_) #[true, true, true, true, true, true, true, true, true, true, true, true, true, true, true, true, true, true, true, true, true, false, false, false, false, false, false, false, false, false, false, false] rfl rfl (any_of HT_.out (by kernel_rfl)) (fun _ _ _ h => h) (Or.inl ⟨by rfl, ?_⟩) ?_ ?_
             rotate_left
             ·intro w'
              go_simp
              with_reducible rfl
             rotate_left
             ·simp only [Act.put, List.setIfInBounds_toArray, List.set_cons_zero, List.set_cons_succ, i64_w, i32_w]
              rfl
             refine pure_ (i := 21) (N := some 70) (v := ?_) (a' := ?_) #[true, true, true, true, true, true, true, true, true, true, true, true, true, true, true, true, true, true, true, true, true, true, false, false, false, false, false, false, false, false, false, false] rfl rfl (any_of HT_.out (by kernel_rfl)) (fun _ _ _ h => h) (Or.inl ⟨by rfl, ?_⟩) ?_ ?_
             rotate_left
             ·intro w'
              go_simp
              with_reducible rfl
             rotate_left
             ·simp only [Act.put, List.setIfInBounds_toArray, List.set_cons_zero, List.set_cons_succ, i64_w, i32_w]
              rfl
             refine pure_ (i := 22) (N := some 71) (v := ?_) (a' := ?_) #[true, true, true, true, true, true, true, true, true, true, true, true, true, true, true, true, true, true, true, true, true, true, true, false, false, false, false, false, false, false, false, false] rfl rfl (any_of HT_.out (by kernel_rfl)) (fun _ _ _ h => h) (Or.inl ⟨by rfl, ?_⟩) ?_ ?_
             rotate_left
             ·intro w'
              go_simp
              with_reducible rfl
             rotate_left
             ·simp only [Act.put, List.setIfInBounds_toArray, List.set_cons_zero, List.set_cons_succ, i64_w, i32_w]
              rfl
             refine pure_ (i := 23) (N := some 72) (v := ?_) (a' := ?_) #[true, true, true, true, true, true, true, true, true, true, true, true, true, true, true, true, true, true, true, true, true, true, true, true, false, false, false, false, false, false, false, false] rfl rfl (any_of HT_.out (by kernel_rfl)) (fun _ _ _ h => h) (Or.inl ⟨by rfl, ?_⟩) ?_ ?_
             rotate_left
             ·intro w'
              go_simp
              with_reducible rfl
             rotate_left
             ·simp only [Act.put, List.setIfInBounds_toArray, List.set_cons_zero, List.set_cons_succ, i64_w, i32_w]
              rfl
             refine pure_ (i := 26) (N := some 75) (v := ?_) (a' := ?_) #[true, true, true, true, true, true, true, true, true, true, true, true, true, true, true, true, true, true, true, true, true, true, true, true, false, false, true, false, false, false, false, false] rfl rfl (any_of HT_.out (by kernel_rfl)) (fun _ _ _ h => h) (Or.inl ⟨by rfl, ?_⟩) ?_ ?_
             rotate_left
             ·intro w'
              go_simp
              with_reducible rfl
             rotate_left
             ·simp only [Act.put, List.setIfInBounds_toArray, List.set_cons_zero, List.set_cons_succ, i64_w, i32_w]
              rfl
             refine take_ (i := 24) (N := some 73) (v := ?_) (a' := ?_) #[true, true, true, true, true, true, true, true, true, true, true, true, true, true, true, true, true, true, true, true, true, true, true, true, true, false, true, false, false, false, false, false] rfl rfl (take_ofW HT_.out HW_.out (by kernel_rfl)) (fun _ _ _ h => h) (Or.inl ⟨by rfl, ?_⟩) hHeld ?_ ?_
             rotate_left
             ·rintro w' ⟨s0, s1, s2, s3, s4, s5, s6, s7, s8, s9, s10, s11, s12, s13, s14, s15, s16, s17⟩
              go_simp
              with_reducible rfl
             rotate_left
             ·simp only [Act.put, List.setIfInBounds_toArray, List.set_cons_zero, List.set_cons_succ, i64_w, i32_w]
              rfl
             refine take_ (i := 27) (N := some 76) (v := ?_) (a' := ?_) #[true, true, true, true, true, true, true, true, true, true, true, true, true, true, true, true, true, true, true, true, true, true, true, true, true, false, true, true, false, false, false, false] rfl rfl (take_ofW HT_.out HW_.out (by kernel_rfl)) (fun _ _ _ h => h) (Or.inl ⟨by rfl, ?_⟩) hHeld ?_ ?_
             rotate_left
             ·rintro w' ⟨s0, s1, s2, s3, s4, s5, s6, s7, s8, s9, s10, s11, s12, s13, s14, s15, s16, s17⟩
              go_simp
              with_reducible rfl
             rotate_left
             ·simp only [Act.put, List.setIfInBounds_toArray, List.set_cons_zero, List.set_cons_succ, i64_w, i32_w]
              rfl
             refine one_ (i := 25) (N := some 74) #[true, true, true, true, true, true, true, true, true, true, true, true, true, true, true, true, true, true, true, true, true, true, true, true, true, true, true, true, false, false, false, false] rfl rfl (one_of HT_.out (by kernel_rfl)) (by decide) (fun K hK => ?_)
             refine goes_ Try.func12 (by kernel_rfl) rfl #[.slice Ao54 t483.length co54] (by rfl) rfl rfl (by (try simp only [List.map_toArray, List.map_cons, List.map_nil]); first | done | rfl | (simp only [List.length_drop, List.length_take]; rfl)) ?_
             with_reducible refine (haywainlaw22_As.calls kj3 _ _ t483 t498 _ ?side1 ?side2 A44.out).mono ?_
             (case side1 => repeat (first | exact (Kd.V_reads' HO485.out).2.2 | (with_reducible refine Kd.C_alloc ?_ _) | (with_reducible refine Kd.C_drewN ?_ _) | (with_reducible refine Kd.C_drew ?_)))
             (case side2 => exact (Kd.V_reads' HO485.out).2.1)
             rintro e w66 ⟨v499, rfl, ho0, hb⟩
             refine ⟨_, rfl, ?_⟩
             have n0_ := Aside0.mk (Kd.R_below (by (with_reducible repeat (first | apply Kd.R_alloc | apply Kd.R_drewN | apply Kd.R_drew)); exact HO480.out) hb)
             have n1_ := Aside0.mk (Kd.V_elder' (by (with_reducible repeat (first | apply Kd.V_alloc | apply Kd.V_drewN | apply Kd.V_drew)); exact HO485.out) (Kd.R_base ho0) hb)
             have n2_ := Aside0.mk (Kd.R_lower ho0 (below_size (by repeat (first | (with_reducible first | exact HB.out | apply below_alloc | apply pw_below_drewN | apply below_drew1 | refine below_set ?_ GE470.out | refine below_set ?_ GE471.out | refine below_set ?_ GE482.out | refine below_set ?_ GE495.out | refine below_set ?_ GE496.out) | exact HB.out))))
             have n3_ := Aside0.mk (blk_below (g := gb470) (o := .cells #[.slice (some ad497) l0_0.length c0_0] 26 (0, 0)) (by (with_reducible repeat (first | refine blk_drewN ?_ _ | refine blk_drew ?_ | refine blk_alloc ?_ _)); exact BK470.out) hb)
             have n4_ := Aside0.mk (blk_below (g := gb471) (o := .cells #[.int .i64 a2_0, .int .i64 a2_1, .int .i64 a2_2, .int .i64 a2_3, .int .i64 a2_4, .int .i64 a2_5, .int .i64 a2_6, .string a2_7] 23 (0, 0)) (by (with_reducible repeat (first | refine blk_drewN ?_ _ | refine blk_drew ?_ | refine blk_alloc ?_ _)); exact BK471.out) hb)
             have n5_ := Aside0.mk (blk_below (g := gb482) (o := .cells #[.slice Ao32 t478.length co32] 26 (0, 0)) (by (with_reducible repeat (first | refine blk_drewN ?_ _ | refine blk_drew ?_ | refine blk_alloc ?_ _)); exact BK482.out) hb)
             have n6_ := Aside0.mk (blk_below (g := gb495) (o := .cells #[.slice Ao54 t483.length co54] 26 (0, 0)) (by (with_reducible repeat (first | refine blk_drewN ?_ _ | refine blk_drew ?_ | refine blk_alloc ?_ _)); exact BK495.out) hb)
             have n7_ := Aside0.mk (blk_below (g := gb496) (o := .cells #[.int .i64 t486, .int .i64 t487, .int .i64 t488, .int .i64 t489, .int .i64 t490, .int .i64 t491, .int .i64 t492, .string t493] 23 (0, 0)) (by (with_reducible repeat (first | refine blk_drewN ?_ _ | refine blk_drew ?_ | refine blk_alloc ?_ _)); exact BK496.out) hb)
             have n8_ := Aside0.mk (below_step (by repeat (first | (with_reducible first | exact HB.out | apply below_alloc | apply pw_below_drewN | apply below_drew1 | refine below_set ?_ GE470.out | refine below_set ?_ GE471.out | refine below_set ?_ GE482.out | refine below_set ?_ GE495.out | refine below_set ?_ GE496.out) | exact HB.out)) hb)
             clear HO480
             clear HO485
             clear BK470
             clear BK471
             clear BK482
             clear BK495
             clear BK496
             clear HB
             have HO480 := n0_
             have HO485 := n1_
             have HO500 := n2_
             have BK470 := n3_
             have BK471 := n4_
             have BK482 := n5_
             have BK495 := n6_
             have BK496 := n7_
             have HB := n8_
             clear n0_ n1_ n2_ n3_ n4_ n5_ n6_ n7_ n8_
             (try clear hb)
             (try clear hb2)
             (try clear hk)
             (try clear hi)
             (try clear ho0)
             refine hK.out _ _ ⟨(blk_cell BK470.out 0).trans rfl, (blk_cell BK496.out 0).trans rfl, (blk_cell BK496.out 1).trans rfl, (blk_cell BK496.out 2).trans rfl, (blk_cell BK496.out 3).trans rfl, (blk_cell BK496.out 4).trans rfl, (blk_cell BK496.out 5).trans rfl, (blk_cell BK496.out 6).trans rfl, (blk_cell BK496.out 7).trans rfl, (blk_cell BK495.out 0).trans rfl, ((HB.out.cell (World.block_lt_of_cell? w _ hw497_0)).trans hw497_0), ((HB.out.cell (World.block_lt_of_cell? w _ hw497_1)).trans hw497_1), ((HB.out.cell (World.block_lt_of_cell? w _ hw497_2)).trans hw497_2), ((HB.out.cell (World.block_lt_of_cell? w _ hw497_3)).trans hw497_3), ((HB.out.cell (World.block_lt_of_cell? w _ hw497_4)).trans hw497_4), ((HB.out.cell (World.block_lt_of_cell? w _ hw497_5)).trans hw497_5), ((HB.out.cell (World.block_lt_of_cell? w _ hw497_6)).trans hw497_6), ((HB.out.cell (World.block_lt_of_cell? w _ hw497_7)).trans hw497_7)⟩ (fun hHeld => ?_)
             clear hK K
             refine norm_ (a' := ?_) ?_ ?_
             rotate_left
             ·show Act.put _ (some 74) _ = _
              simp only [Act.put, List.setIfInBounds_toArray, List.set_cons_zero, List.set_cons_succ, i64_w, i32_w]
              rfl
             refine one_ (i := 28) (N := some 77) #[true, true, true, true, true, true, true, true, true, true, true, true, true, true, true, true, true, true, true, true, true, true, true, true, true, true, true, true, true, false, false, false] rfl rfl (one_of HT_.out (by kernel_rfl)) (by decide) (fun K hK => ?_)
             refine goes_ Try.func12 (by kernel_rfl) rfl #[.slice (some ad497) l0_0.length c0_0] (by rfl) rfl rfl (by (try simp only [List.map_toArray, List.map_cons, List.map_nil]); first | done | rfl | (simp only [List.length_drop, List.length_take]; rfl)) ?_
             with_reducible refine (haywainlaw22_As.calls kj3 _ _ l0_0 t501 _ ?side1 ?side2 A45.out).mono ?_
             (case side1 => repeat (first | exact (Kd.C_below HR0_0.out HB.out) | (with_reducible refine Kd.C_alloc ?_ _) | (with_reducible refine Kd.C_drewN ?_ _) | (with_reducible refine Kd.C_drew ?_)))
             (case side2 => exact HC0_0.out)
             rintro e w67 ⟨v502, rfl, ho0, hb⟩
             refine ⟨_, rfl, ?_⟩
             have n0_ := Aside0.mk (Kd.R_below (by (with_reducible repeat (first | apply Kd.R_alloc | apply Kd.R_drewN | apply Kd.R_drew)); exact HO480.out) hb)
             have n1_ := Aside0.mk (Kd.V_elder' (by (with_reducible repeat (first | apply Kd.V_alloc | apply Kd.V_drewN | apply Kd.V_drew)); exact HO485.out) (Kd.R_base ho0) hb)
             have n2_ := Aside0.mk (Kd.R_elder' (by (with_reducible repeat (first | apply Kd.R_alloc | apply Kd.R_drewN | apply Kd.R_drew)); exact HO500.out) (Kd.R_base ho0) hb)
             have n3_ := Aside0.mk (Kd.R_lower (Kd.R_new' ho0 (Kd.R_lt (by (with_reducible repeat (first | apply Kd.R_alloc | apply Kd.R_drewN | apply Kd.R_drew)); exact HO500.out))) (below_size (by repeat (first | (with_reducible first | exact HB.out | apply below_alloc | apply pw_below_drewN | apply below_drew1 | refine below_set ?_ GE470.out | refine below_set ?_ GE471.out | refine below_set ?_ GE482.out | refine below_set ?_ GE495.out | refine below_set ?_ GE496.out) | exact HB.out))))
             have n4_ := Aside0.mk (blk_below (g := gb470) (o := .cells #[.slice (some ad497) l0_0.length c0_0] 26 (0, 0)) (by (with_reducible repeat (first | refine blk_drewN ?_ _ | refine blk_drew ?_ | refine blk_alloc ?_ _)); exact BK470.out) hb)
             have n5_ := Aside0.mk (blk_below (g := gb471) (o := .cells #[.int .i64 a2_0, .int .i64 a2_1, .int .i64 a2_2, .int .i64 a2_3, .int .i64 a2_4, .int .i64 a2_5, .int .i64 a2_6, .string a2_7] 23 (0, 0)) (by (with_reducible repeat (first | refine blk_drewN ?_ _ | refine blk_drew ?_ | refine blk_alloc ?_ _)); exact BK471.out) hb)
             have n6_ := Aside0.mk (blk_below (g := gb482) (o := .cells #[.slice Ao32 t478.length co32] 26 (0, 0)) (by (with_reducible repeat (first | refine blk_drewN ?_ _ | refine blk_drew ?_ | refine blk_alloc ?_ _)); exact BK482.out) hb)
             have n7_ := Aside0.mk (blk_below (g := gb495) (o := .cells #[.slice Ao54 t483.length co54] 26 (0, 0)) (by (with_reducible repeat (first | refine blk_drewN ?_ _ | refine blk_drew ?_ | refine blk_alloc ?_ _)); exact BK495.out) hb)
             have n8_ := Aside0.mk (blk_below (g := gb496) (o := .cells #[.int .i64 t486, .int .i64 t487, .int .i64 t488, .int .i64 t489, .int .i64 t490, .int .i64 t491, .int .i64 t492, .string t493] 23 (0, 0)) (by (with_reducible repeat (first | refine blk_drewN ?_ _ | refine blk_drew ?_ | refine blk_alloc ?_ _)); exact BK496.out) hb)
             have n9_ := Aside0.mk (below_step (by repeat (first | (with_reducible first | exact HB.out | apply below_alloc | apply pw_below_drewN | apply below_drew1 | refine below_set ?_ GE470.out | refine below_set ?_ GE471.out | refine below_set ?_ GE482.out | refine below_set ?_ GE495.out | refine below_set ?_ GE496.out) | exact HB.out)) hb)
             clear HO480
             clear HO485
             clear HO500
             clear BK470
             clear BK471
             clear BK482
             clear BK495
             clear BK496
             clear HB
             have HO480 := n0_
             have HO485 := n1_
             have HO500 := n2_
             have HO503 := n3_
             have BK470 := n4_
             have BK471 := n5_
             have BK482 := n6_
             have BK495 := n7_
             have BK496 := n8_
             have HB := n9_
             clear n0_ n1_ n2_ n3_ n4_ n5_ n6_ n7_ n8_ n9_
             (try clear hb)
             (try clear hb2)
             (try clear hk)
             (try clear hi)
             (try clear ho0)
             obtain ⟨Ao68, co68, eo68⟩ := Kd.R_slice HO500.out
             (first | subst eo68 | (injection eo68 with f1_ f2_ f3_; have f4_ := f1_.symm; have f5_ := f3_.symm; clear f1_ f2_ f3_; subst f4_; subst f5_))
             obtain ⟨Ao69, co69, eo69⟩ := Kd.R_slice HO503.out
             (first | subst eo69 | (injection eo69 with f1_ f2_ f3_; have f4_ := f1_.symm; have f5_ := f3_.symm; clear f1_ f2_ f3_; subst f4_; subst f5_))
             refine hK.out _ _ ⟨(blk_cell BK470.out 0).trans rfl, (blk_cell BK496.out 0).trans rfl, (blk_cell BK496.out 1).trans rfl, (blk_cell BK496.out 2).trans rfl, (blk_cell BK496.out 3).trans rfl, (blk_cell BK496.out 4).trans rfl, (blk_cell BK496.out 5).trans rfl, (blk_cell BK496.out 6).trans rfl, (blk_cell BK496.out 7).trans rfl, (blk_cell BK495.out 0).trans rfl, ((HB.out.cell (World.block_lt_of_cell? w _ hw497_0)).trans hw497_0), ((HB.out.cell (World.block_lt_of_cell? w _ hw497_1)).trans hw497_1), ((HB.out.cell (World.block_lt_of_cell? w _ hw497_2)).trans hw497_2), ((HB.out.cell (World.block_lt_of_cell? w _ hw497_3)).trans hw497_3), ((HB.out.cell (World.block_lt_of_cell? w _ hw497_4)).trans hw497_4), ((HB.out.cell (World.block_lt_of_cell? w _ hw497_5)).trans hw497_5), ((HB.out.cell (World.block_lt_of_cell? w _ hw497_6)).trans hw497_6), ((HB.out.cell (World.block_lt_of_cell? w _ hw497_7)).trans hw497_7)⟩ (fun hHeld => ?_)
             clear hK K
             refine norm_ (a' := ?_) ?_ ?_
             rotate_left
             ·show Act.put _ (some 77) _ = _
              simp only [Act.put, List.setIfInBounds_toArray, List.set_cons_zero, List.set_cons_succ, i64_w, i32_w]
              rfl
             refine one_ (i := 29) (N := some 78) #[true, true, true, true, true, true, true, true, true, true, true, true, true, true, true, true, true, true, true, true, true, true, true, true, true, true, true, true, true, true, false, false] rfl rfl (one_of HT_.out (by kernel_rfl)) (by decide) (fun K hK => ?_)
             refine goes_ Try.func19 (by kernel_rfl) rfl #[.slice Ao68 t498.length co68, .slice Ao69 t501.length co69] (by rfl) rfl rfl (by (try simp only [List.map_toArray, List.map_cons, List.map_nil]); first | done | rfl | (simp only [List.length_drop, List.length_take]; rfl)) ?_
             with_reducible refine (haywainref22_Same.calls kj3 _ _ t498 _ _ t501 true _ ?side1 ?side2 ?side3 ?side4 A46.out).mono ?_
             (case side1 => repeat (first | exact (Kd.R_reads' HO500.out).2.2 | (with_reducible refine Kd.C_alloc ?_ _) | (with_reducible refine Kd.C_drewN ?_ _) | (with_reducible refine Kd.C_drew ?_)))
             (case side2 => exact (Kd.R_reads' HO500.out).2.1)
             (case side3 => repeat (first | exact (Kd.R_reads' HO503.out).2.2 | (with_reducible refine Kd.C_alloc ?_ _) | (with_reducible refine Kd.C_drewN ?_ _) | (with_reducible refine Kd.C_drew ?_)))
             (case side4 => exact (Kd.R_reads' HO503.out).2.1)
             rintro e w' ⟨rfl, ⟨nd, rfl⟩⟩
             refine ⟨_, rfl, ?_⟩
             refine hK.out _ _ ⟨(blk_cell BK470.out 0).trans rfl, (blk_cell BK496.out 0).trans rfl, (blk_cell BK496.out 1).trans rfl, (blk_cell BK496.out 2).trans rfl, (blk_cell BK496.out 3).trans rfl, (blk_cell BK496.out 4).trans rfl, (blk_cell BK496.out 5).trans rfl, (blk_cell BK496.out 6).trans rfl, (blk_cell BK496.out 7).trans rfl, (blk_cell BK495.out 0).trans rfl, ((HB.out.cell (World.block_lt_of_cell? w _ hw497_0)).trans hw497_0), ((HB.out.cell (World.block_lt_of_cell? w _ hw497_1)).trans hw497_1), ((HB.out.cell (World.block_lt_of_cell? w _ hw497_2)).trans hw497_2), ((HB.out.cell (World.block_lt_of_cell? w _ hw497_3)).trans hw497_3), ((HB.out.cell (World.block_lt_of_cell? w _ hw497_4)).trans hw497_4), ((HB.out.cell (World.block_lt_of_cell? w _ hw497_5)).trans hw497_5), ((HB.out.cell (World.block_lt_of_cell? w _ hw497_6)).trans hw497_6), ((HB.out.cell (World.block_lt_of_cell? w _ hw497_7)).trans hw497_7)⟩ (fun hHeld => ?_)
             clear hK K
             refine norm_ (a' := ?_) ?_ ?_
             rotate_left
             ·show Act.put _ (some 78) _ = _
              simp only [Act.put, List.setIfInBounds_toArray, List.set_cons_zero, List.set_cons_succ, i64_w, i32_w]
              rfl
             refine pure_ (i := 30) (N := some 79) (v := ?_) (a' := ?_) #[true, true, true, true, true, true, true, true, true, true, true, true, true, true, true, true, true, true, true, true, true, true, true, true, true, true, true, true, true, true, true, false] rfl rfl (any_of HT_.out (by kernel_rfl)) (fun _ _ _ h => h) (Or.inl ⟨by rfl, ?_⟩) ?_ ?_
             rotate_left
             ·intro w'
              go_simp
              with_reducible rfl
             rotate_left
             ·simp only [Act.put, List.setIfInBounds_toArray, List.set_cons_zero, List.set_cons_succ, i64_w, i32_w]
              rfl
             refine pure_ (i := 31) (N := some 80) (v := ?_) (a' := ?_) #[true, true, true, true, true, true, true, true, true, true, true, true, true, true, true, true, true, true, true, true, true, true, true, true, true, true, true, true, true, true, true, true] rfl rfl (any_of HT_.out (by kernel_rfl)) (fun _ _ _ h => h) (Or.inl ⟨by rfl, ?_⟩) ?_ ?_
             rotate_left
             ·intro w'
              go_simp
              with_reducible rfl
             rotate_left
             ·simp only [Act.put, List.setIfInBounds_toArray, List.set_cons_zero, List.set_cons_succ, i64_w, i32_w]
              rfl
             refine done_ (done_of HT_.out (by kernel_rfl)) ?_
             try go_wp2
             go_meet
             case rel => exact ⟨_, H', ⟨by have := HJ3.out; first | omega | exact Nat.le_refl _⟩, ⟨by (with_reducible repeat (first | apply Kd.R_alloc | apply Kd.R_drewN | apply Kd.R_drew)); exact Kd.R_mono HO480.out (fun _ hk => hk.1)⟩, ⟨by (with_reducible repeat (first | refine blk_drewN ?_ _ | refine blk_drew ?_ | refine blk_alloc ?_ _)); exact BK470.out⟩, ⟨by (with_reducible repeat (first | refine blk_drewN ?_ _ | refine blk_drew ?_ | refine blk_alloc ?_ _)); exact BK471.out⟩, ⟨by (with_reducible repeat (first | refine blk_drewN ?_ _ | refine blk_drew ?_ | refine blk_alloc ?_ _)); exact BK482.out⟩, ⟨by repeat (first | (with_reducible first | exact HB.out | apply below_alloc | apply pw_below_drewN | apply below_drew1 | refine below_set ?_ GE470.out | refine below_set ?_ GE471.out | refine below_set ?_ GE482.out | refine below_set ?_ GE495.out | refine below_set ?_ GE496.out) | exact HB.out)⟩⟩
            ·replace c47 := Bool.eq_false_iff.mpr c47
             subst c47
             have H1 : (none) = some r := by rw [if_neg (show ¬ (false = true) by decide)] at H; exact H
             clear H
             have H := H1
             clear H1
             exact absurd H (by simp)
          ·rw [if_neg c42] at H
           exact absurd H (by simp)
         ·rw [if_neg c41] at H
          exact absurd H (by simp)
      ·rw [if_neg c38] at H
       exact absurd H (by simp)
     ·rw [if_neg c36] at H
      have c36b0 : (t481 == 0) = false := beq_eq_false_iff_ne.mpr c36
      have c36b1 : (t481 != 0) = true := bne_iff_ne.mpr c36
      (first | rw [c36b0] | (simp only [i64_w, i32_w]; rw [c36b0]) | skip)
      have H' := Aside0.mk H
      clear H
      go_wp2
      go_meet
      case rel => exact ⟨_, H', ⟨by have := HJ3.out; first | omega | exact Nat.le_refl _⟩, ⟨by (with_reducible repeat (first | apply Kd.R_alloc | apply Kd.R_drewN | apply Kd.R_drew)); exact Kd.R_mono (Kd.R_far (p := ⟨gb482, 0, none⟩) (Kd.R_types HO480.out BK482.out (by decide)) (fun _ hk => hk.2) (.slice Ao32 t478.length co32)) (fun _ hk => hk.1.2)⟩, ⟨by (with_reducible repeat (first | refine blk_drewN ?_ _ | refine blk_drew ?_ | refine blk_alloc ?_ _)); refine blk_far ?_ NB470_482.out _; (with_reducible repeat (first | refine blk_drewN ?_ _ | refine blk_drew ?_ | refine blk_alloc ?_ _)); exact BK470.out⟩, ⟨by (with_reducible repeat (first | refine blk_drewN ?_ _ | refine blk_drew ?_ | refine blk_alloc ?_ _)); refine blk_far ?_ NB471_482.out _; (with_reducible repeat (first | refine blk_drewN ?_ _ | refine blk_drew ?_ | refine blk_alloc ?_ _)); exact BK471.out⟩, ⟨by (with_reducible repeat (first | refine blk_drewN ?_ _ | refine blk_drew ?_ | refine blk_alloc ?_ _)); refine blk_put (cs := #[.slice none 0 0]) ?_ 0 _ rfl; (with_reducible repeat (first | refine blk_drewN ?_ _ | refine blk_drew ?_ | refine blk_alloc ?_ _)); exact BK482.out⟩, ⟨by repeat (first | (with_reducible first | exact HB.out | apply below_alloc | apply pw_below_drewN | apply below_drew1 | refine below_set ?_ GE470.out | refine below_set ?_ GE471.out | refine below_set ?_ GE482.out) | exact HB.out)⟩⟩
    case rest =>
     clear HC27
     try clear c1
     try clear c2
     try clear p2
     try clear c3
     try clear c4
     try clear p4
     try clear q4
     try clear hx4
     try clear c5
     try clear c6
     try clear p6
     try clear c9
     try clear c12
     try clear c17
     try clear c19
     try clear c20
     try clear c23
     try clear c28
     try clear c33
     try clear c34
     try clear c36
     try clear c36b0
     try clear c36b1
     try clear c38
     try clear c38b0
     try clear c38b1
     try clear c39
     try clear c39b0
     try clear c40
     try clear c40b0
     try clear c41
     try clear c41b0
     try clear c42
     try clear c42b0
     try clear c43
     try clear c43b0
     try clear c47
     try clear c48
     try clear c49
     try clear p49
     try clear q49
     try clear hx49
     try clear c55
     try clear c56
     try clear c57
     try clear c58
     try clear c60
     try clear c61
     try clear c62
     try clear p64
     try clear hcz14_3
     try clear hcz14_4
     try clear hcz14_5
     try clear hcz14_6
     try clear hcz14_7
     try clear hcz18_0
     try clear hcz19_0
     try clear hcz19_1
     try clear hcz19_2
     try clear hcz19_3
     try clear hcz19_4
     try clear hcz19_5
     try clear hcz19_6
     try clear hcz19_7
     try clear hcz29_0
     try clear hcz35_0
     try clear hcz50_0
     try clear hcz59_0
     try clear hcz63_0
     try clear hcz63_1
     try clear hcz63_2
     try clear hcz63_3
     try clear hcz63_4
     try clear hcz63_5
     try clear hcz63_6
     try clear hcz63_7
     try clear hfz10_0
     try clear hfz13_0
     try clear hfz14_0
     try clear hfz14_1
     try clear hfz14_2
     try clear hfz14_3
     try clear hfz14_4
     try clear hfz14_5
     try clear hfz14_6
     try clear hfz14_7
     try clear hfz18_0
     try clear hfz19_0
     try clear hfz19_1
     try clear hfz19_2
     try clear hfz19_3
     try clear hfz19_4
     try clear hfz19_5
     try clear hfz19_6
     try clear hfz19_7
     try clear hfz29_0
     try clear hfz35_0
     try clear hfz50_0
     try clear hfz59_0
     try clear hfz63_0
     try clear hfz63_1
     try clear hfz63_2
     try clear hfz63_3
     try clear hfz63_4
     try clear hfz63_5
     try clear hfz63_6
     try clear hfz63_7
     try clear hx497_0
     try clear hx497_1
     try clear hx497_2
     try clear hx497_3
     try clear hx497_4
     try clear hx497_5
     try clear hx497_6
     try clear hx497_7
     try clear p497
     try clear q497
     obtain ⟨kq, HA, HJ26, HO_483000, BK470, BK471, BK482, HB⟩ := hcut
     cases kq with
     | zero => exact absurd HA.out (by simp [haywainlaw22_NetAgain.j1])
     | succ kj26 =>
      have H := HA.out
      clear HA
      simp only [haywainlaw22_NetAgain.j1] at H
      obtain ⟨y505, hy505⟩ : ∃ y_ : List (S23), y_ = (([(⟨a2_0, a2_1, a2_2, a2_3, a2_4, a2_5, a2_6, a2_7⟩ : S23)] : List (S23))) := ⟨_, rfl⟩
      replace H : ((net_Send.f kj26 l0_0 y505).bind fun bt508 => (if bt508.2 = 0 then ((haywainlaw22_As.f kj26 bt508.1).bind fun t513 => ((haywainlaw22_As.f kj26 l0_0).bind fun t516 => ((haywainref22_Same.f kj26 t513 t516).bind fun t519 => (if t519 = true then ((haywainlaw22_knows.f kj26).bind fun t520 => (some t520)) else (none))))) else (if bt508.2 = 1 then (if (bt508.1.length : Int) = (wrap64 ((l0_0.length : Int) + 1)) then (if 0 ≤ (l0_0.length : Int) then (if (l0_0.length : Int) < (bt508.1.length : Int) then (if (((rd_T23 bt508.1 (l0_0.length : Int)).f0) == a2_0 && (((rd_T23 bt508.1 (l0_0.length : Int)).f1) == a2_1 && (((rd_T23 bt508.1 (l0_0.length : Int)).f2) == a2_2 && (((rd_T23 bt508.1 (l0_0.length : Int)).f3) == a2_3 && (((rd_T23 bt508.1 (l0_0.length : Int)).f4) == a2_4 && (((rd_T23 bt508.1 (l0_0.length : Int)).f5) == a2_5 && (((rd_T23 bt508.1 (l0_0.length : Int)).f6) == a2_6 && ((((rd_T23 bt508.1 (l0_0.length : Int)).f7).toList) == a2_7.toList)))))))) = true then (if (l0_0.length : Int) ≤ (bt508.1.length : Int) then ((haywainlaw22_As.f kj26 (bt508.1.take ((l0_0.length : Int) : Int).toNat)).bind fun t526 => ((haywainlaw22_As.f kj26 l0_0).bind fun t529 => ((haywainref22_Same.f kj26 t526 t529).bind fun t532 => (if t532 = true then ((haywainlaw22_knows.f kj26).bind fun t533 => (some t533)) else (none))))) else (none)) else (none)) else (none)) else (none)) else (none)) else (none)))) = some r := by first | (rw [hy505]; with_reducible exact H) | (have H2_ := (Option.bind_some _ _).symm.trans H; rw [hy505]; with_reducible exact H2_) | (have H2_ := (Option.bind_some _ _).symm.trans H; with_reducible exact H2_) | with_reducible exact H | (rw [hy505]; exact H) | exact H
      have Ny505 := Aside0.mk hy505
      clear hy505
      replace H := Option.bind_eq_some_iff.mp H
      obtain ⟨⟨t508, t511⟩, A700, H⟩ := H
      replace H : (if t511 = 0 then ((haywainlaw22_As.f kj26 t508).bind fun t513 => ((haywainlaw22_As.f kj26 l0_0).bind fun t516 => ((haywainref22_Same.f kj26 t513 t516).bind fun t519 => (if t519 = true then ((haywainlaw22_knows.f kj26).bind fun t520 => (some t520)) else (none))))) else (if t511 = 1 then (if (t508.length : Int) = (wrap64 ((l0_0.length : Int) + 1)) then (if 0 ≤ (l0_0.length : Int) then (if (l0_0.length : Int) < (t508.length : Int) then (if (((rd_T23 t508 (l0_0.length : Int)).f0) == a2_0 && (((rd_T23 t508 (l0_0.length : Int)).f1) == a2_1 && (((rd_T23 t508 (l0_0.length : Int)).f2) == a2_2 && (((rd_T23 t508 (l0_0.length : Int)).f3) == a2_3 && (((rd_T23 t508 (l0_0.length : Int)).f4) == a2_4 && (((rd_T23 t508 (l0_0.length : Int)).f5) == a2_5 && (((rd_T23 t508 (l0_0.length : Int)).f6) == a2_6 && ((((rd_T23 t508 (l0_0.length : Int)).f7).toList) == a2_7.toList)))))))) = true then (if (l0_0.length : Int) ≤ (t508.length : Int) then ((haywainlaw22_As.f kj26 (t508.take ((l0_0.length : Int) : Int).toNat)).bind fun t526 => ((haywainlaw22_As.f kj26 l0_0).bind fun t529 => ((haywainref22_Same.f kj26 t526 t529).bind fun t532 => (if t532 = true then ((haywainlaw22_knows.f kj26).bind fun t533 => (some t533)) else (none))))) else (none)) else (none)) else (none)) else (none)) else (none)) else (none))) = some r := H
      have A70 := Aside0.mk A700
      clear A700
      by_cases c71 : t511 = 0
      ·rw [if_pos c71] at H
       have c71b0 : (t511 == 0) = true := beq_iff_eq.mpr c71
       have c71b1 : (t511 != 0) = false := bne_eq_false_iff_eq.mpr c71
       clear c71
       replace H := Option.bind_eq_some_iff.mp H
       obtain ⟨t513, A720, H⟩ := H
       replace H : ((haywainlaw22_As.f kj26 l0_0).bind fun t516 => ((haywainref22_Same.f kj26 t513 t516).bind fun t519 => (if t519 = true then ((haywainlaw22_knows.f kj26).bind fun t520 => (some t520)) else (none)))) = some r := H
       have A72 := Aside0.mk A720
       clear A720
       replace H := Option.bind_eq_some_iff.mp H
       obtain ⟨t516, A730, H⟩ := H
       replace H : ((haywainref22_Same.f kj26 t513 t516).bind fun t519 => (if t519 = true then ((haywainlaw22_knows.f kj26).bind fun t520 => (some t520)) else (none))) = some r := H
       have A73 := Aside0.mk A730
       clear A730
       replace H := Option.bind_eq_some_iff.mp H
       obtain ⟨t519, A740, H⟩ := H
       replace H : (if t519 = true then ((haywainlaw22_knows.f kj26).bind fun t520 => (some t520)) else (none)) = some r := H
       have A74 := Aside0.mk A740
       clear A740
       by_cases c75 : t519 = true
       ·subst c75
        have H1 : ((haywainlaw22_knows.f kj26).bind fun t520 => (some t520)) = some r := by rw [if_pos rfl] at H; exact H
        clear H
        have H := H1
        clear H1
        replace H := Option.bind_eq_some_iff.mp H
        obtain ⟨t520, A760, H⟩ := H
        replace H : (some t520) = some r := H
        have A76 := Aside0.mk A760
        clear A760
        obtain rfl := Option.some.inj H
        have hnb77 := NB470_471.out
        have hnc77 := NB471_470.out
        have hnb78 := NB470_482.out
        have hnc78 := NB482_470.out
        have hcz79_0 : wc.cell? ⟨gb470, 0, none⟩ = some (.slice A0_0 l0_0.length c0_0) := (blk_cell BK470.out 0).trans rfl
        have hfz79_0 := blk_frozen BK470.out 0
        have hnb80 := NB471_482.out
        have hnc80 := NB482_471.out
        have hcz81_0 : wc.cell? ⟨gb471, 0, none⟩ = some (.int .i64 a2_0) := (blk_cell BK471.out 0).trans rfl
        have hcz81_1 : wc.cell? ⟨gb471, 1, none⟩ = some (.int .i64 a2_1) := (blk_cell BK471.out 1).trans rfl
        have hcz81_2 : wc.cell? ⟨gb471, 2, none⟩ = some (.int .i64 a2_2) := (blk_cell BK471.out 2).trans rfl
        have hcz81_3 : wc.cell? ⟨gb471, 3, none⟩ = some (.int .i64 a2_3) := (blk_cell BK471.out 3).trans rfl
        have hcz81_4 : wc.cell? ⟨gb471, 4, none⟩ = some (.int .i64 a2_4) := (blk_cell BK471.out 4).trans rfl
        have hcz81_5 : wc.cell? ⟨gb471, 5, none⟩ = some (.int .i64 a2_5) := (blk_cell BK471.out 5).trans rfl
        have hcz81_6 : wc.cell? ⟨gb471, 6, none⟩ = some (.int .i64 a2_6) := (blk_cell BK471.out 6).trans rfl
        have hcz81_7 : wc.cell? ⟨gb471, 7, none⟩ = some (.string a2_7) := (blk_cell BK471.out 7).trans rfl
        have hfz81_0 := blk_frozen BK471.out 0
        have hfz81_1 := blk_frozen BK471.out 1
        have hfz81_2 := blk_frozen BK471.out 2
        have hfz81_3 := blk_frozen BK471.out 3
        have hfz81_4 := blk_frozen BK471.out 4
        have hfz81_5 := blk_frozen BK471.out 5
        have hfz81_6 := blk_frozen BK471.out 6
        have hfz81_7 := blk_frozen BK471.out 7
        try go_wp2_with (first | ((with_reducible refine gate_dst (N := 84) rfl ?_); (try (refine gate_guard (by rfl) ?_; dsimp only)); refine Kd.R_lit k23 _ 23 ?hg (N := 84) ?hd (xs := ([(⟨a2_0, a2_1, a2_2, a2_3, a2_4, a2_5, a2_6, a2_7⟩ : S23)] : List (S23))) (inner := [.int .i64 a2_0, .int .i64 a2_1, .int .i64 a2_2, .int .i64 a2_3, .int .i64 a2_4, .int .i64 a2_5, .int .i64 a2_6, .string a2_7]) (ok := fun _ => True) (okp := fun _ => True) ?hr ?hp (fun _ hk => hk) trivial (Below.refl _ _) (Nat.le_refl _) (by simp) ?_; (case hd => rfl); (case hg => rfl); (case hr => first | (go_simp; done) | (go_simp; rfl)); (case hp => exact (Reps.c8 (show Kd.M k23 _ _ _ (⟨a2_0, a2_1, a2_2, a2_3, a2_4, a2_5, a2_6, a2_7⟩ : S23) [.int .i64 a2_0, .int .i64 a2_1, .int .i64 a2_2, .int .i64 a2_3, .int .i64 a2_4, .int .i64 a2_5, .int .i64 a2_6, .string a2_7] from (k23_mkM _ _ _ (⟨a2_0, a2_1, a2_2, a2_3, a2_4, a2_5, a2_6, a2_7⟩ : S23) )) (Reps.none _ _))); intro v506 w82 ho83 hb hg_ hnew_; clear hg_ hnew_; (first | rw [← Ny505.out] at ho83 | (simp only [Int.reduceToNat] at ho83; rw [← Ny505.out] at ho83)); have n0_ := Aside0.mk (Kd.R_elder' (by (with_reducible repeat (first | apply Kd.R_alloc | apply Kd.R_drewN | apply Kd.R_drew)); exact HO_483000.out) (Kd.R_base ho83) hb); have n1_ := Aside0.mk (Kd.R_lower (Kd.R_newB (Kd.R_new' ho83 (Kd.R_lt (by (with_reducible repeat (first | apply Kd.R_alloc | apply Kd.R_drewN | apply Kd.R_drew)); exact HO_483000.out))) (g := gb471) (o := .cells #[.int .i64 a2_0, .int .i64 a2_1, .int .i64 a2_2, .int .i64 a2_3, .int .i64 a2_4, .int .i64 a2_5, .int .i64 a2_6, .string a2_7] 23 (0, 0)) (by (with_reducible repeat (first | refine blk_drewN ?_ _ | refine blk_drew ?_ | refine blk_alloc ?_ _)); exact BK471.out)) (below_size (by repeat (first | (with_reducible first | exact HB.out | apply below_alloc | apply pw_below_drewN | apply below_drew1 | refine below_set ?_ GE470.out | refine below_set ?_ GE471.out | refine below_set ?_ GE482.out) | exact HB.out)))); have n2_ := Aside0.mk (blk_below (g := gb470) (o := .cells #[.slice A0_0 l0_0.length c0_0] 26 (0, 0)) (by (with_reducible repeat (first | refine blk_drewN ?_ _ | refine blk_drew ?_ | refine blk_alloc ?_ _)); exact BK470.out) hb); have n3_ := Aside0.mk (blk_below (g := gb471) (o := .cells #[.int .i64 a2_0, .int .i64 a2_1, .int .i64 a2_2, .int .i64 a2_3, .int .i64 a2_4, .int .i64 a2_5, .int .i64 a2_6, .string a2_7] 23 (0, 0)) (by (with_reducible repeat (first | refine blk_drewN ?_ _ | refine blk_drew ?_ | refine blk_alloc ?_ _)); exact BK471.out) hb); have n4_ := Aside0.mk (blk_below (g := gb482) (o := .cells #[.slice Ao32 t478.length co32] 26 (0, 0)) (by (with_reducible repeat (first | refine blk_drewN ?_ _ | refine blk_drew ?_ | refine blk_alloc ?_ _)); exact BK482.out) hb); have n5_ := Aside0.mk (below_step (by repeat (first | (with_reducible first | exact HB.out | apply below_alloc | apply pw_below_drewN | apply below_drew1 | refine below_set ?_ GE470.out | refine below_set ?_ GE471.out | refine below_set ?_ GE482.out) | exact HB.out)) hb); clear HO_483000; clear BK470; clear BK471; clear BK482; clear HB; have HO_483000 := n0_; have HO507 := n1_; have BK470 := n2_; have BK471 := n3_; have BK482 := n4_; have HB := n5_; clear n0_ n1_ n2_ n3_ n4_ n5_; clear hb ho83; obtain ⟨Ao84, co84, eo84⟩ := Kd.R_slice HO507.out; subst eo84) | ((with_reducible refine gate_callee (f := 15) rfl ?_); refine goesL_ (some 85) rfl rfl Try.func15 (by kernel_rfl) rfl #[.agg #[.slice A0_0 l0_0.length c0_0], .slice Ao84 y505.length co84] rfl (by (try simp only [List.map_toArray, List.map_cons, List.map_nil]); first | done | rfl | (simp only [List.length_drop, List.length_take]; rfl)) ?_; (with_reducible refine (net_Send.calls kj26 _ _ l0_0 _ _ y505 t508 t511 _ ?side1 ?side2 ?side3 ?side4 A70.out).mono ?_); (case side1 => repeat (first | exact (Kd.C_below HR0_0.out HB.out) | (with_reducible refine Kd.C_alloc ?_ _) | (with_reducible refine Kd.C_drewN ?_ _) | (with_reducible refine Kd.C_drew ?_))); (case side2 => exact HC0_0.out); (case side3 => repeat (first | exact (Kd.R_reads' HO507.out).2.2 | (with_reducible refine Kd.C_alloc ?_ _) | (with_reducible refine Kd.C_drewN ?_ _) | (with_reducible refine Kd.C_drew ?_))); (case side4 => exact (Kd.R_reads' HO507.out).2.1); rintro e w85 ⟨v509, rfl, ho0, hb⟩; refine ⟨_, rfl, ?_⟩; have n0_ := Aside0.mk (Kd.R_elder' (by (with_reducible repeat (first | apply Kd.R_alloc | apply Kd.R_drewN | apply Kd.R_drew)); exact HO_483000.out) (Kd.R_base ho0) hb); have n1_ := Aside0.mk (Kd.R_elder' (by (with_reducible repeat (first | apply Kd.R_alloc | apply Kd.R_drewN | apply Kd.R_drew)); exact HO507.out) (Kd.R_base ho0) hb); have n2_ := Aside0.mk (Kd.R_lower (Kd.R_newB (Kd.R_new' (Kd.R_new' ho0 (Kd.R_lt (by (with_reducible repeat (first | apply Kd.R_alloc | apply Kd.R_drewN | apply Kd.R_drew)); exact HO_483000.out))) (Kd.R_lt (by (with_reducible repeat (first | apply Kd.R_alloc | apply Kd.R_drewN | apply Kd.R_drew)); exact HO507.out))) (g := gb471) (o := .cells #[.int .i64 a2_0, .int .i64 a2_1, .int .i64 a2_2, .int .i64 a2_3, .int .i64 a2_4, .int .i64 a2_5, .int .i64 a2_6, .string a2_7] 23 (0, 0)) (by (with_reducible repeat (first | refine blk_drewN ?_ _ | refine blk_drew ?_ | refine blk_alloc ?_ _)); exact BK471.out)) (below_size (by repeat (first | (with_reducible first | exact HB.out | apply below_alloc | apply pw_below_drewN | apply below_drew1 | refine below_set ?_ GE470.out | refine below_set ?_ GE471.out | refine below_set ?_ GE482.out) | exact HB.out)))); have n3_ := Aside0.mk (blk_below (g := gb470) (o := .cells #[.slice A0_0 l0_0.length c0_0] 26 (0, 0)) (by (with_reducible repeat (first | refine blk_drewN ?_ _ | refine blk_drew ?_ | refine blk_alloc ?_ _)); exact BK470.out) hb); have n4_ := Aside0.mk (blk_below (g := gb471) (o := .cells #[.int .i64 a2_0, .int .i64 a2_1, .int .i64 a2_2, .int .i64 a2_3, .int .i64 a2_4, .int .i64 a2_5, .int .i64 a2_6, .string a2_7] 23 (0, 0)) (by (with_reducible repeat (first | refine blk_drewN ?_ _ | refine blk_drew ?_ | refine blk_alloc ?_ _)); exact BK471.out) hb); have n5_ := Aside0.mk (blk_below (g := gb482) (o := .cells #[.slice Ao32 t478.length co32] 26 (0, 0)) (by (with_reducible repeat (first | refine blk_drewN ?_ _ | refine blk_drew ?_ | refine blk_alloc ?_ _)); exact BK482.out) hb); have n6_ := Aside0.mk (below_step (by repeat (first | (with_reducible first | exact HB.out | apply below_alloc | apply pw_below_drewN | apply below_drew1 | refine below_set ?_ GE470.out | refine below_set ?_ GE471.out | refine below_set ?_ GE482.out) | exact HB.out)) hb); clear HO_483000; clear HO507; clear BK470; clear BK471; clear BK482; clear HB; have HO_483000 := n0_; have HO507 := n1_; have HO510 := n2_; have BK470 := n3_; have BK471 := n4_; have BK482 := n5_; have HB := n6_; clear n0_ n1_ n2_ n3_ n4_ n5_ n6_; (try clear hb); (try clear hb2); (try clear hk); (try clear hi); (try clear ho0)) | ((with_reducible refine gate_dst (N := 12) rfl ?_); (try (refine gate_guard (by rfl) ?_; dsimp only)); refine box_event ?hg (N := 12) ?hd (cs := #[.slice none 0 0]) (t := 26) ?hr ?_; (case hd => rfl); (case hg => rfl); (case hr => first | (go_simp; done) | (go_simp; rfl)); intro gb512 hg w86 hbox hb; have n0_ := Aside0.mk (Kd.R_below (by (with_reducible repeat (first | apply Kd.R_alloc | apply Kd.R_drewN | apply Kd.R_drew)); exact HO_483000.out) hb); have n1_ := Aside0.mk (Kd.R_below (by (with_reducible repeat (first | apply Kd.R_alloc | apply Kd.R_drewN | apply Kd.R_drew)); exact HO507.out) hb); have n2_ := Aside0.mk (Kd.R_below (by (with_reducible repeat (first | apply Kd.R_alloc | apply Kd.R_drewN | apply Kd.R_drew)); exact HO510.out) hb); have n3_ := Aside0.mk (blk_below (g := gb470) (o := .cells #[.slice A0_0 l0_0.length c0_0] 26 (0, 0)) (by (with_reducible repeat (first | refine blk_drewN ?_ _ | refine blk_drew ?_ | refine blk_alloc ?_ _)); exact BK470.out) hb); have n4_ := Aside0.mk (blk_below (g := gb471) (o := .cells #[.int .i64 a2_0, .int .i64 a2_1, .int .i64 a2_2, .int .i64 a2_3, .int .i64 a2_4, .int .i64 a2_5, .int .i64 a2_6, .string a2_7] 23 (0, 0)) (by (with_reducible repeat (first | refine blk_drewN ?_ _ | refine blk_drew ?_ | refine blk_alloc ?_ _)); exact BK471.out) hb); have n5_ := Aside0.mk (blk_below (g := gb482) (o := .cells #[.slice Ao32 t478.length co32] 26 (0, 0)) (by (with_reducible repeat (first | refine blk_drewN ?_ _ | refine blk_drew ?_ | refine blk_alloc ?_ _)); exact BK482.out) hb); have n6_ := Aside0.mk (below_step (by repeat (first | (with_reducible first | exact HB.out | apply below_alloc | apply pw_below_drewN | apply below_drew1 | refine below_set ?_ GE470.out | refine below_set ?_ GE471.out | refine below_set ?_ GE482.out) | exact HB.out)) hb); have n7_ := Aside0.mk (hbox); have n8_ := Aside0.mk ((by rw [hg]; exact (below_size (by repeat (first | (with_reducible first | exact HB.out | apply below_alloc | apply pw_below_drewN | apply below_drew1 | refine below_set ?_ GE470.out | refine below_set ?_ GE471.out | refine below_set ?_ GE482.out) | exact HB.out))) : w.heap.size ≤ gb512)); have n9_ := Aside0.mk ((by rw [hg]; exact (below_size (by repeat (first | (with_reducible first | exact HB.out | apply below_alloc | apply pw_below_drewN | apply below_drew1 | refine below_set ?_ GE470.out | refine below_set ?_ GE471.out | refine below_set ?_ GE482.out) | exact HB.out))) : w.heap.size ≤ gb512)); have n10_ := Aside0.mk ((by rw [hg]; exact Nat.ne_of_lt (blk_lt (g := gb470) (o := .cells #[.slice A0_0 l0_0.length c0_0] 26 (0, 0)) (by (with_reducible repeat (first | refine blk_drewN ?_ _ | refine blk_drew ?_ | refine blk_alloc ?_ _)); exact BK470.out)) : gb470 ≠ gb512)); have n11_ := Aside0.mk ((by rw [hg]; exact Nat.ne_of_gt (blk_lt (g := gb470) (o := .cells #[.slice A0_0 l0_0.length c0_0] 26 (0, 0)) (by (with_reducible repeat (first | refine blk_drewN ?_ _ | refine blk_drew ?_ | refine blk_alloc ?_ _)); exact BK470.out)) : gb512 ≠ gb470)); have n12_ := Aside0.mk ((by rw [hg]; exact Nat.ne_of_lt (blk_lt (g := gb471) (o := .cells #[.int .i64 a2_0, .int .i64 a2_1, .int .i64 a2_2, .int .i64 a2_3, .int .i64 a2_4, .int .i64 a2_5, .int .i64 a2_6, .string a2_7] 23 (0, 0)) (by (with_reducible repeat (first | refine blk_drewN ?_ _ | refine blk_drew ?_ | refine blk_alloc ?_ _)); exact BK471.out)) : gb471 ≠ gb512)); have n13_ := Aside0.mk ((by rw [hg]; exact Nat.ne_of_gt (blk_lt (g := gb471) (o := .cells #[.int .i64 a2_0, .int .i64 a2_1, .int .i64 a2_2, .int .i64 a2_3, .int .i64 a2_4, .int .i64 a2_5, .int .i64 a2_6, .string a2_7] 23 (0, 0)) (by (with_reducible repeat (first | refine blk_drewN ?_ _ | refine blk_drew ?_ | refine blk_alloc ?_ _)); exact BK471.out)) : gb512 ≠ gb471)); have n14_ := Aside0.mk ((by rw [hg]; exact Nat.ne_of_lt (blk_lt (g := gb482) (o := .cells #[.slice Ao32 t478.length co32] 26 (0, 0)) (by (with_reducible repeat (first | refine blk_drewN ?_ _ | refine blk_drew ?_ | refine blk_alloc ?_ _)); exact BK482.out)) : gb482 ≠ gb512)); have n15_ := Aside0.mk ((by rw [hg]; exact Nat.ne_of_gt (blk_lt (g := gb482) (o := .cells #[.slice Ao32 t478.length co32] 26 (0, 0)) (by (with_reducible repeat (first | refine blk_drewN ?_ _ | refine blk_drew ?_ | refine blk_alloc ?_ _)); exact BK482.out)) : gb512 ≠ gb482)); clear HO_483000; clear HO507; clear HO510; clear BK470; clear BK471; clear BK482; clear HB; have HO_483000 := n0_; have HO507 := n1_; have HO510 := n2_; have BK470 := n3_; have BK471 := n4_; have BK482 := n5_; have HB := n6_; have BK512 := n7_; have GW512 := n8_; have GE512 := n9_; have NB470_512 := n10_; have NB512_470 := n11_; have NB471_512 := n12_; have NB512_471 := n13_; have NB482_512 := n14_; have NB512_482 := n15_; clear n0_ n1_ n2_ n3_ n4_ n5_ n6_ n7_ n8_ n9_ n10_ n11_ n12_ n13_ n14_ n15_; clear hb hbox hg; obtain ⟨Ao87, co87, eo87⟩ := Kd.R_slice HO510.out; subst eo87; have hnb88 := NB512_470.out; have hnc88 := NB470_512.out; have hnb89 := NB512_471.out; have hnc89 := NB471_512.out; have hnb90 := NB512_482.out; have hnc90 := NB482_512.out; have hcz91_0 : w86.cell? ⟨gb512, 0, none⟩ = some (.slice none 0 0) := (blk_cell BK512.out 0).trans rfl; have hfz91_0 := blk_frozen BK512.out 0))
        have n0_ : Aside0 (Kd.R k23 23 (w86.setCell ⟨gb512, 0, none⟩ (.slice Ao87 t508.length co87)) w.heap.size (fun k_ => some k_ ≠ (.slice Ao84 y505.length co84 : Value).ownBlock ∧ some k_ ≠ (.slice Ao87 t508.length co87 : Value).ownBlock ∧ k_ ≠ gb471) (.slice Ao32 t478.length co32) t478) := ⟨by (with_reducible repeat (first | apply Kd.R_alloc | apply Kd.R_drewN | apply Kd.R_drew)); exact Kd.R_mono (Kd.R_far (p := ⟨gb512, 0, none⟩) (Kd.R_types HO_483000.out BK512.out (by decide)) (fun _ hk => hk.2) (.slice Ao87 t508.length co87)) (fun _ hk => ⟨hk.1.1.2, ⟨hk.1.2, hk.1.1.1⟩⟩)⟩
        have n1_ : Aside0 (Kd.R k23 23 (w86.setCell ⟨gb512, 0, none⟩ (.slice Ao87 t508.length co87)) w.heap.size (fun k_ => some k_ ≠ (.slice Ao32 t478.length co32 : Value).ownBlock ∧ some k_ ≠ (.slice Ao87 t508.length co87 : Value).ownBlock ∧ k_ ≠ gb471) (.slice Ao84 y505.length co84) y505) := ⟨by (with_reducible repeat (first | apply Kd.R_alloc | apply Kd.R_drewN | apply Kd.R_drew)); exact Kd.R_mono (Kd.R_far (p := ⟨gb512, 0, none⟩) (Kd.R_types HO507.out BK512.out (by decide)) (fun _ hk => hk.2) (.slice Ao87 t508.length co87)) (fun _ hk => ⟨hk.1.1.1.2, ⟨hk.1.2, hk.1.1.2⟩⟩)⟩
        have n2_ : Aside0 (Kd.R k23 23 (w86.setCell ⟨gb512, 0, none⟩ (.slice Ao87 t508.length co87)) w.heap.size (fun k_ => some k_ ≠ (.slice Ao32 t478.length co32 : Value).ownBlock ∧ some k_ ≠ (.slice Ao84 y505.length co84 : Value).ownBlock ∧ k_ ≠ gb471) (.slice Ao87 t508.length co87) t508) := ⟨by (with_reducible repeat (first | apply Kd.R_alloc | apply Kd.R_drewN | apply Kd.R_drew)); exact Kd.R_mono (Kd.R_far (p := ⟨gb512, 0, none⟩) (Kd.R_types HO510.out BK512.out (by decide)) (fun _ hk => hk.2) (.slice Ao87 t508.length co87)) (fun _ hk => ⟨hk.1.1.1.2, ⟨hk.1.1.2, hk.1.2⟩⟩)⟩
        have n3_ : Aside0 ((w86.setCell ⟨gb512, 0, none⟩ (.slice Ao87 t508.length co87)).heap[gb470]? = some (.cells #[.slice A0_0 l0_0.length c0_0] 26 (0, 0))) := ⟨by (with_reducible repeat (first | refine blk_drewN ?_ _ | refine blk_drew ?_ | refine blk_alloc ?_ _)); refine blk_far ?_ NB470_512.out _; (with_reducible repeat (first | refine blk_drewN ?_ _ | refine blk_drew ?_ | refine blk_alloc ?_ _)); exact BK470.out⟩
        have n4_ : Aside0 ((w86.setCell ⟨gb512, 0, none⟩ (.slice Ao87 t508.length co87)).heap[gb471]? = some (.cells #[.int .i64 a2_0, .int .i64 a2_1, .int .i64 a2_2, .int .i64 a2_3, .int .i64 a2_4, .int .i64 a2_5, .int .i64 a2_6, .string a2_7] 23 (0, 0))) := ⟨by (with_reducible repeat (first | refine blk_drewN ?_ _ | refine blk_drew ?_ | refine blk_alloc ?_ _)); refine blk_far ?_ NB471_512.out _; (with_reducible repeat (first | refine blk_drewN ?_ _ | refine blk_drew ?_ | refine blk_alloc ?_ _)); exact BK471.out⟩
        have n5_ : Aside0 ((w86.setCell ⟨gb512, 0, none⟩ (.slice Ao87 t508.length co87)).heap[gb482]? = some (.cells #[.slice Ao32 t478.length co32] 26 (0, 0))) := ⟨by (with_reducible repeat (first | refine blk_drewN ?_ _ | refine blk_drew ?_ | refine blk_alloc ?_ _)); refine blk_far ?_ NB482_512.out _; (with_reducible repeat (first | refine blk_drewN ?_ _ | refine blk_drew ?_ | refine blk_alloc ?_ _)); exact BK482.out⟩
        have n6_ : Aside0 ((w86.setCell ⟨gb512, 0, none⟩ (.slice Ao87 t508.length co87)).heap[gb512]? = some (.cells #[.slice Ao87 t508.length co87] 26 (0, 0))) := ⟨by (with_reducible repeat (first | refine blk_drewN ?_ _ | refine blk_drew ?_ | refine blk_alloc ?_ _)); refine blk_put (cs := #[.slice none 0 0]) ?_ 0 _ rfl; (with_reducible repeat (first | refine blk_drewN ?_ _ | refine blk_drew ?_ | refine blk_alloc ?_ _)); exact BK512.out⟩
        have n7_ : Aside0 (Below w.heap.size w (w86.setCell ⟨gb512, 0, none⟩ (.slice Ao87 t508.length co87))) := ⟨by repeat (first | (with_reducible first | exact HB.out | apply below_alloc | apply pw_below_drewN | apply below_drew1 | refine below_set ?_ GE470.out | refine below_set ?_ GE471.out | refine below_set ?_ GE482.out | refine below_set ?_ GE512.out) | exact HB.out)⟩
        (try clear HO_483000)
        (try clear HO507)
        (try clear HO510)
        (try clear BK470)
        (try clear BK471)
        (try clear BK482)
        (try clear BK512)
        (try clear HB)
        generalize (w86.setCell ⟨gb512, 0, none⟩ (.slice Ao87 t508.length co87)) = w92 at n0_ n1_ n2_ n3_ n4_ n5_ n6_ n7_ ⊢
        have HO_483000 := n0_
        have HO507 := n1_
        have HO510 := n2_
        have BK470 := n3_
        have BK471 := n4_
        have BK482 := n5_
        have BK512 := n6_
        have HB := n7_
        clear n0_ n1_ n2_ n3_ n4_ n5_ n6_ n7_
        have n0_ := Aside0.mk (Kd.R_drew HO_483000.out)
        have n1_ := Aside0.mk (Kd.R_drew HO507.out)
        have n2_ := Aside0.mk (Kd.R_drew HO510.out)
        have n3_ := Aside0.mk (blk_drew BK470.out)
        have n4_ := Aside0.mk (blk_drew BK471.out)
        have n5_ := Aside0.mk (blk_drew BK482.out)
        have n6_ := Aside0.mk (blk_drew BK512.out)
        have n7_ := Aside0.mk (below_drew1 HB.out)
        clear HO_483000
        clear HO507
        clear HO510
        clear BK470
        clear BK471
        clear BK482
        clear BK512
        clear HB
        have HO_483000 := n0_
        have HO507 := n1_
        have HO510 := n2_
        have BK470 := n3_
        have BK471 := n4_
        have BK482 := n5_
        have BK512 := n6_
        have HB := n7_
        clear n0_ n1_ n2_ n3_ n4_ n5_ n6_ n7_
        refine start_ (n := 11) (S := fun w' => w'.cell? ⟨gb512, 0, none⟩ = some (.slice Ao87 t508.length co87) ∧ w'.cell? ⟨gb470, 0, none⟩ = some (.slice A0_0 l0_0.length c0_0)) (ds := []) #[false, false, false, false, false, false, false, false, false, false, false] (by kernel_rfl) rfl rfl ⟨(blk_cell BK512.out 0).trans rfl, (blk_cell BK470.out 0).trans rfl⟩ (fun hHeld => ?_); refine with_tabW haywainlaw22_NetAgain.tab10 haywainlaw22_NetAgain.bits10 (fun HT_ HW_ => ?_)
        generalize w92.drew = w93 at HO_483000 HO507 HO510 BK470 BK471 BK482 BK512 HB hHeld ⊢
        refine pure_ (i := 0) (N := some 90) (v := ?_) (a' := ?_) #[true, false, false, false, false, false, false, false, false, false, false] rfl rfl (any_of HT_.out (by kernel_rfl)) (fun _ _ _ h => h) (Or.inl ⟨by rfl, ?_⟩) ?_ ?_
        rotate_left
        ·intro w'
         go_simp
         with_reducible rfl
        rotate_left
        ·simp only [Act.put, List.setIfInBounds_toArray, List.set_cons_zero, List.set_cons_succ, i64_w, i32_w]
         rfl
        refine pure_ (i := 3) (N := some 93) (v := ?_) (a' := ?_) #[true, false, false, true, false, false, false, false, false, false, false] rfl rfl (any_of HT_.out (by kernel_rfl)) (fun _ _ _ h => h) (Or.inl ⟨by rfl, ?_⟩) ?_ ?_
        rotate_left
        ·intro w'
         go_simp
         with_reducible rfl
        rotate_left
        ·simp only [Act.put, List.setIfInBounds_toArray, List.set_cons_zero, List.set_cons_succ, i64_w, i32_w]
         rfl
        refine take_ (i := 1) (N := some 91) (v := ?_) (a' := ?_) #[true, true, false, true, false, false, false, false, false, false, false] rfl rfl (take_ofW HT_.out HW_.out (by kernel_rfl)) (fun _ _ _ h => h) (Or.inl ⟨by rfl, ?_⟩) hHeld ?_ ?_
        rotate_left
        ·rintro w' ⟨s0, s1⟩
         go_simp
         with_reducible rfl
        rotate_left
        ·simp only [Act.put, List.setIfInBounds_toArray, List.set_cons_zero, List.set_cons_succ, i64_w, i32_w]
         rfl
        refine take_ (i := 4) (N := some 94) (v := ?_) (a' := ?_) #[true, true, false, true, true, false, false, false, false, false, false] rfl rfl (take_ofW HT_.out HW_.out (by kernel_rfl)) (fun _ _ _ h => h) (Or.inl ⟨by rfl, ?_⟩) hHeld ?_ ?_
        rotate_left
        ·rintro w' ⟨s0, s1⟩
         go_simp
         with_reducible rfl
        rotate_left
        ·simp only [Act.put, List.setIfInBounds_toArray, List.set_cons_zero, List.set_cons_succ, i64_w, i32_w]
         rfl
        refine one_ (i := 2) (N := some 92) #[true, true, true, true, true, false, false, false, false, false, false] rfl rfl (one_of HT_.out (by kernel_rfl)) (by decide) (fun K hK => ?_)
        refine goes_ Try.func12 (by kernel_rfl) rfl #[.slice Ao87 t508.length co87] (by rfl) rfl rfl (by (try simp only [List.map_toArray, List.map_cons, List.map_nil]); first | done | rfl | (simp only [List.length_drop, List.length_take]; rfl)) ?_
        with_reducible refine (haywainlaw22_As.calls kj26 _ _ t508 t513 _ ?side1 ?side2 A72.out).mono ?_
        (case side1 => repeat (first | exact (Kd.R_reads' HO510.out).2.2 | (with_reducible refine Kd.C_alloc ?_ _) | (with_reducible refine Kd.C_drewN ?_ _) | (with_reducible refine Kd.C_drew ?_)))
        (case side2 => exact (Kd.R_reads' HO510.out).2.1)
        rintro e w94 ⟨v514, rfl, ho0, hb⟩
        refine ⟨_, rfl, ?_⟩
        have n0_ := Aside0.mk (Kd.R_below (by (with_reducible repeat (first | apply Kd.R_alloc | apply Kd.R_drewN | apply Kd.R_drew)); exact HO_483000.out) hb)
        have n1_ := Aside0.mk (Kd.R_below (by (with_reducible repeat (first | apply Kd.R_alloc | apply Kd.R_drewN | apply Kd.R_drew)); exact HO507.out) hb)
        have n2_ := Aside0.mk (Kd.R_below (by (with_reducible repeat (first | apply Kd.R_alloc | apply Kd.R_drewN | apply Kd.R_drew)); exact HO510.out) hb)
        have n3_ := Aside0.mk (Kd.R_lower ho0 (below_size (by repeat (first | (with_reducible first | exact HB.out | apply below_alloc | apply pw_below_drewN | apply below_drew1 | refine below_set ?_ GE470.out | refine below_set ?_ GE471.out | refine below_set ?_ GE482.out | refine below_set ?_ GE512.out) | exact HB.out))))
        have n4_ := Aside0.mk (blk_below (g := gb470) (o := .cells #[.slice A0_0 l0_0.length c0_0] 26 (0, 0)) (by (with_reducible repeat (first | refine blk_drewN ?_ _ | refine blk_drew ?_ | refine blk_alloc ?_ _)); exact BK470.out) hb)
        have n5_ := Aside0.mk (blk_below (g := gb471) (o := .cells #[.int .i64 a2_0, .int .i64 a2_1, .int .i64 a2_2, .int .i64 a2_3, .int .i64 a2_4, .int .i64 a2_5, .int .i64 a2_6, .string a2_7] 23 (0, 0)) (by (with_reducible repeat (first | refine blk_drewN ?_ _ | refine blk_drew ?_ | refine blk_alloc ?_ _)); exact BK471.out) hb)
        have n6_ := Aside0.mk (blk_below (g := gb482) (o := .cells #[.slice Ao32 t478.length co32] 26 (0, 0)) (by (with_reducible repeat (first | refine blk_drewN ?_ _ | refine blk_drew ?_ | refine blk_alloc ?_ _)); exact BK482.out) hb)
        have n7_ := Aside0.mk (blk_below (g := gb512) (o := .cells #[.slice Ao87 t508.length co87] 26 (0, 0)) (by (with_reducible repeat (first | refine blk_drewN ?_ _ | refine blk_drew ?_ | refine blk_alloc ?_ _)); exact BK512.out) hb)
        have n8_ := Aside0.mk (below_step (by repeat (first | (with_reducible first | exact HB.out | apply below_alloc | apply pw_below_drewN | apply below_drew1 | refine below_set ?_ GE470.out | refine below_set ?_ GE471.out | refine below_set ?_ GE482.out | refine below_set ?_ GE512.out) | exact HB.out)) hb)
        clear HO_483000
        clear HO507
        clear HO510
        clear BK470
        clear BK471
        clear BK482
        clear BK512
        clear HB
        have HO_483000 := n0_
        have HO507 := n1_
        have HO510 := n2_
        have HO515 := n3_
        have BK470 := n4_
        have BK471 := n5_
        have BK482 := n6_
        have BK512 := n7_
        have HB := n8_
        clear n0_ n1_ n2_ n3_ n4_ n5_ n6_ n7_ n8_
        (try clear hb)
        (try clear hb2)
        (try clear hk)
        (try clear hi)
        (try clear ho0)
        refine hK.out _ _ ⟨(blk_cell BK512.out 0).trans rfl, (blk_cell BK470.out 0).trans rfl⟩ (fun hHeld => ?_)
        clear hK K
        refine norm_ (a' := ?_) ?_ ?_
        rotate_left
        ·show Act.put _ (some 92) _ = _
         simp only [Act.put, List.setIfInBounds_toArray, List.set_cons_zero, List.set_cons_succ, i64_w, i32_w]
         rfl
        refine one_ (i := 5) (N := some 95) #[true, true, true, true, true, true, false, false, false, false, false] rfl rfl (one_of HT_.out (by kernel_rfl)) (by decide) (fun K hK => ?_)
        refine goes_ Try.func12 (by kernel_rfl) rfl #[.slice A0_0 l0_0.length c0_0] (by rfl) rfl rfl (by (try simp only [List.map_toArray, List.map_cons, List.map_nil]); first | done | rfl | (simp only [List.length_drop, List.length_take]; rfl)) ?_
        with_reducible refine (haywainlaw22_As.calls kj26 _ _ l0_0 t516 _ ?side1 ?side2 A73.out).mono ?_
        (case side1 => repeat (first | exact (Kd.C_below HR0_0.out HB.out) | (with_reducible refine Kd.C_alloc ?_ _) | (with_reducible refine Kd.C_drewN ?_ _) | (with_reducible refine Kd.C_drew ?_)))
        (case side2 => exact HC0_0.out)
        rintro e w95 ⟨v517, rfl, ho0, hb⟩
        refine ⟨_, rfl, ?_⟩
        have n0_ := Aside0.mk (Kd.R_below (by (with_reducible repeat (first | apply Kd.R_alloc | apply Kd.R_drewN | apply Kd.R_drew)); exact HO_483000.out) hb)
        have n1_ := Aside0.mk (Kd.R_below (by (with_reducible repeat (first | apply Kd.R_alloc | apply Kd.R_drewN | apply Kd.R_drew)); exact HO507.out) hb)
        have n2_ := Aside0.mk (Kd.R_below (by (with_reducible repeat (first | apply Kd.R_alloc | apply Kd.R_drewN | apply Kd.R_drew)); exact HO510.out) hb)
        have n3_ := Aside0.mk (Kd.R_elder' (by (with_reducible repeat (first | apply Kd.R_alloc | apply Kd.R_drewN | apply Kd.R_drew)); exact HO515.out) (Kd.R_base ho0) hb)
        have n4_ := Aside0.mk (Kd.R_lower (Kd.R_new' ho0 (Kd.R_lt (by (with_reducible repeat (first | apply Kd.R_alloc | apply Kd.R_drewN | apply Kd.R_drew)); exact HO515.out))) (below_size (by repeat (first | (with_reducible first | exact HB.out | apply below_alloc | apply pw_below_drewN | apply below_drew1 | refine below_set ?_ GE470.out | refine below_set ?_ GE471.out | refine below_set ?_ GE482.out | refine below_set ?_ GE512.out) | exact HB.out))))
        have n5_ := Aside0.mk (blk_below (g := gb470) (o := .cells #[.slice A0_0 l0_0.length c0_0] 26 (0, 0)) (by (with_reducible repeat (first | refine blk_drewN ?_ _ | refine blk_drew ?_ | refine blk_alloc ?_ _)); exact BK470.out) hb)
        have n6_ := Aside0.mk (blk_below (g := gb471) (o := .cells #[.int .i64 a2_0, .int .i64 a2_1, .int .i64 a2_2, .int .i64 a2_3, .int .i64 a2_4, .int .i64 a2_5, .int .i64 a2_6, .string a2_7] 23 (0, 0)) (by (with_reducible repeat (first | refine blk_drewN ?_ _ | refine blk_drew ?_ | refine blk_alloc ?_ _)); exact BK471.out) hb)
        have n7_ := Aside0.mk (blk_below (g := gb482) (o := .cells #[.slice Ao32 t478.length co32] 26 (0, 0)) (by (with_reducible repeat (first | refine blk_drewN ?_ _ | refine blk_drew ?_ | refine blk_alloc ?_ _)); exact BK482.out) hb)
        have n8_ := Aside0.mk (blk_below (g := gb512) (o := .cells #[.slice Ao87 t508.length co87] 26 (0, 0)) (by (with_reducible repeat (first | refine blk_drewN ?_ _ | refine blk_drew ?_ | refine blk_alloc ?_ _)); exact BK512.out) hb)
        have n9_ := Aside0.mk (below_step (by repeat (first | (with_reducible first | exact HB.out | apply below_alloc | apply pw_below_drewN | apply below_drew1 | refine below_set ?_ GE470.out | refine below_set ?_ GE471.out | refine below_set ?_ GE482.out | refine below_set ?_ GE512.out) | exact HB.out)) hb)
        clear HO_483000
        clear HO507
        clear HO510
        clear HO515
        clear BK470
        clear BK471
        clear BK482
        clear BK512
        clear HB
        have HO_483000 := n0_
        have HO507 := n1_
        have HO510 := n2_
        have HO515 := n3_
        have HO518 := n4_
        have BK470 := n5_
        have BK471 := n6_
        have BK482 := n7_
        have BK512 := n8_
        have HB := n9_
        clear n0_ n1_ n2_ n3_ n4_ n5_ n6_ n7_ n8_ n9_
        (try clear hb)
        (try clear hb2)
        (try clear hk)
        (try clear hi)
        (try clear ho0)
        obtain ⟨Ao96, co96, eo96⟩ := Kd.R_slice HO515.out
        (first | subst eo96 | (injection eo96 with f1_ f2_ f3_; have f4_ := f1_.symm; have f5_ := f3_.symm; clear f1_ f2_ f3_; subst f4_; subst f5_))
        obtain ⟨Ao97, co97, eo97⟩ := Kd.R_slice HO518.out
        (first | subst eo97 | (injection eo97 with f1_ f2_ f3_; have f4_ := f1_.symm; have f5_ := f3_.symm; clear f1_ f2_ f3_; subst f4_; subst f5_))
        refine hK.out _ _ ⟨(blk_cell BK512.out 0).trans rfl, (blk_cell BK470.out 0).trans rfl⟩ (fun hHeld => ?_)
        clear hK K
        refine norm_ (a' := ?_) ?_ ?_
        rotate_left
        ·show Act.put _ (some 95) _ = _
         simp only [Act.put, List.setIfInBounds_toArray, List.set_cons_zero, List.set_cons_succ, i64_w, i32_w]
         rfl
        refine one_ (i := 6) (N := some 96) #[true, true, true, true, true, true, true, false, false, false, false] rfl rfl (one_of HT_.out (by kernel_rfl)) (by decide) (fun K hK => ?_)
        refine goes_ Try.func19 (by kernel_rfl) rfl #[.slice Ao96 t513.length co96, .slice Ao97 t516.length co97] (by rfl) rfl rfl (by (try simp only [List.map_toArray, List.map_cons, List.map_nil]); first | done | rfl | (simp only [List.length_drop, List.length_take]; rfl)) ?_
        with_reducible refine (haywainref22_Same.calls kj26 _ _ t513 _ _ t516 true _ ?side1 ?side2 ?side3 ?side4 A74.out).mono ?_
        (case side1 => repeat (first | exact (Kd.R_reads' HO515.out).2.2 | (with_reducible refine Kd.C_alloc ?_ _) | (with_reducible refine Kd.C_drewN ?_ _) | (with_reducible refine Kd.C_drew ?_)))
        (case side2 => exact (Kd.R_reads' HO515.out).2.1)
        (case side3 => repeat (first | exact (Kd.R_reads' HO518.out).2.2 | (with_reducible refine Kd.C_alloc ?_ _) | (with_reducible refine Kd.C_drewN ?_ _) | (with_reducible refine Kd.C_drew ?_)))
        (case side4 => exact (Kd.R_reads' HO518.out).2.1)
        rintro e w' ⟨rfl, ⟨nd, rfl⟩⟩
        refine ⟨_, rfl, ?_⟩
        refine hK.out _ _ ⟨(blk_cell BK512.out 0).trans rfl, (blk_cell BK470.out 0).trans rfl⟩ (fun hHeld => ?_)
        clear hK K
        refine norm_ (a' := ?_) ?_ ?_
        rotate_left
        ·show Act.put _ (some 96) _ = _
         simp only [Act.put, List.setIfInBounds_toArray, List.set_cons_zero, List.set_cons_succ, i64_w, i32_w]
         rfl
        refine pure_ (i := 7) (N := some 97) (v := ?_) (a' := ?_) #[true, true, true, true, true, true, true, true, false, false, false] rfl rfl (any_of HT_.out (by kernel_rfl)) (fun _ _ _ h => h) (Or.inl ⟨by rfl, ?_⟩) ?_ ?_
        rotate_left
        ·intro w'
         go_simp
         with_reducible rfl
        rotate_left
        ·simp only [Act.put, List.setIfInBounds_toArray, List.set_cons_zero, List.set_cons_succ, i64_w, i32_w]
         rfl
        refine one_ (i := 8) (N := some 98) #[true, true, true, true, true, true, true, true, true, false, false] rfl rfl (one_of HT_.out (by kernel_rfl)) (by decide) (fun K hK => ?_)
        refine goes_ Try.func9 (by kernel_rfl) rfl #[] (by rfl) rfl rfl (by (try simp only [List.map_toArray, List.map_cons, List.map_nil]); first | done | rfl | (simp only [List.length_drop, List.length_take]; rfl)) ?_
        with_reducible refine (haywainlaw22_knows.calls kj26  t520 _ A76.out).mono ?_
        rintro e w98 ⟨rfl, hb⟩
        refine ⟨_, rfl, ?_⟩
        have n0_ := Aside0.mk (Kd.R_below (by (with_reducible repeat (first | apply Kd.R_alloc | apply Kd.R_drewN | apply Kd.R_drew)); exact HO_483000.out) hb)
        have n1_ := Aside0.mk (Kd.R_below (by (with_reducible repeat (first | apply Kd.R_alloc | apply Kd.R_drewN | apply Kd.R_drew)); exact HO507.out) hb)
        have n2_ := Aside0.mk (Kd.R_below (by (with_reducible repeat (first | apply Kd.R_alloc | apply Kd.R_drewN | apply Kd.R_drew)); exact HO510.out) hb)
        have n3_ := Aside0.mk (Kd.R_below (by (with_reducible repeat (first | apply Kd.R_alloc | apply Kd.R_drewN | apply Kd.R_drew)); exact HO515.out) hb)
        have n4_ := Aside0.mk (Kd.R_below (by (with_reducible repeat (first | apply Kd.R_alloc | apply Kd.R_drewN | apply Kd.R_drew)); exact HO518.out) hb)
        have n5_ := Aside0.mk (blk_below (g := gb470) (o := .cells #[.slice A0_0 l0_0.length c0_0] 26 (0, 0)) (by (with_reducible repeat (first | refine blk_drewN ?_ _ | refine blk_drew ?_ | refine blk_alloc ?_ _)); exact BK470.out) hb)
        have n6_ := Aside0.mk (blk_below (g := gb471) (o := .cells #[.int .i64 a2_0, .int .i64 a2_1, .int .i64 a2_2, .int .i64 a2_3, .int .i64 a2_4, .int .i64 a2_5, .int .i64 a2_6, .string a2_7] 23 (0, 0)) (by (with_reducible repeat (first | refine blk_drewN ?_ _ | refine blk_drew ?_ | refine blk_alloc ?_ _)); exact BK471.out) hb)
        have n7_ := Aside0.mk (blk_below (g := gb482) (o := .cells #[.slice Ao32 t478.length co32] 26 (0, 0)) (by (with_reducible repeat (first | refine blk_drewN ?_ _ | refine blk_drew ?_ | refine blk_alloc ?_ _)); exact BK482.out) hb)
        have n8_ := Aside0.mk (blk_below (g := gb512) (o := .cells #[.slice Ao87 t508.length co87] 26 (0, 0)) (by (with_reducible repeat (first | refine blk_drewN ?_ _ | refine blk_drew ?_ | refine blk_alloc ?_ _)); exact BK512.out) hb)
        have n9_ := Aside0.mk (below_step (by repeat (first | (with_reducible first | exact HB.out | apply below_alloc | apply pw_below_drewN | apply below_drew1 | refine below_set ?_ GE470.out | refine below_set ?_ GE471.out | refine below_set ?_ GE482.out | refine below_set ?_ GE512.out) | exact HB.out)) hb)
        clear HO_483000
        clear HO507
        clear HO510
        clear HO515
        clear HO518
        clear BK470
        clear BK471
        clear BK482
        clear BK512
        clear HB
        have HO_483000 := n0_
        have HO507 := n1_
        have HO510 := n2_
        have HO515 := n3_
        have HO518 := n4_
        have BK470 := n5_
        have BK471 := n6_
        have BK482 := n7_
        have BK512 := n8_
        have HB := n9_
        clear n0_ n1_ n2_ n3_ n4_ n5_ n6_ n7_ n8_ n9_
        (try clear hb)
        (try clear hb2)
        (try clear hk)
        (try clear hi)
        refine hK.out _ _ ⟨(blk_cell BK512.out 0).trans rfl, (blk_cell BK470.out 0).trans rfl⟩ (fun hHeld => ?_)
        clear hK K
        refine norm_ (a' := ?_) ?_ ?_
        rotate_left
        ·show Act.put _ (some 98) _ = _
         simp only [Act.put, List.setIfInBounds_toArray, List.set_cons_zero, List.set_cons_succ, i64_w, i32_w]
         rfl
        refine pure_ (i := 9) (N := some 99) (v := ?_) (a' := ?_) #[true, true, true, true, true, true, true, true, true, true, false] rfl rfl (any_of HT_.out (by kernel_rfl)) (fun _ _ _ h => h) (Or.inl ⟨by rfl, ?_⟩) ?_ ?_
        rotate_left
        ·intro w'
         go_simp
         with_reducible rfl
        rotate_left
        ·simp only [Act.put, List.setIfInBounds_toArray, List.set_cons_zero, List.set_cons_succ, i64_w, i32_w]
         rfl
        refine pure_ (i := 10) (N := some 6) (v := ?_) (a' := ?_) #[true, true, true, true, true, true, true, true, true, true, true] rfl rfl (any_of HT_.out (by kernel_rfl)) (fun _ _ _ h => h) (Or.inl ⟨by rfl, ?_⟩) ?_ ?_
        rotate_left
        ·intro w'
         go_simp
         with_reducible rfl
        rotate_left
        ·simp only [Act.put, List.setIfInBounds_toArray, List.set_cons_zero, List.set_cons_succ, i64_w, i32_w]
         rfl
        refine done_ (done_of HT_.out (by kernel_rfl)) ?_
        try go_wp2
        go_ret
        exact ⟨by first | rfl | (simp [errW_none, errW_some] <;> rfl) | (simp [*, errW_none, errW_some] <;> rfl), by repeat (first | (with_reducible first | exact HB.out | apply below_alloc | apply pw_below_drewN | apply below_drew1 | refine below_set ?_ GE470.out | refine below_set ?_ GE471.out | refine below_set ?_ GE482.out | refine below_set ?_ GE512.out) | exact HB.out)⟩
       ·replace c75 := Bool.eq_false_iff.mpr c75
        subst c75
        have H1 : (none) = some r := by rw [if_neg (show ¬ (false = true) by decide)] at H; exact H
        clear H
        have H := H1
        clear H1
        exact absurd H (by simp)
      ·rw [if_neg c71] at H
       have c71b0 : (t511 == 0) = false := beq_eq_false_iff_ne.mpr c71
       have c71b1 : (t511 != 0) = true := bne_iff_ne.mpr c71
       by_cases c99 : t511 = 1
       ·rw [if_pos c99] at H
        have c99b0 : (t511 == 1) = true := beq_iff_eq.mpr c99
        have c99b1 : (t511 != 1) = false := bne_eq_false_iff_eq.mpr c99
        clear c99
        by_cases c100 : (t508.length : Int) = (wrap64 ((l0_0.length : Int) + 1))
        ·rw [if_pos c100] at H
         have c100b0 : ((t508.length : Int) == (wrap64 ((l0_0.length : Int) + 1))) = true := beq_iff_eq.mpr c100
         have c100b1 : ((t508.length : Int) != (wrap64 ((l0_0.length : Int) + 1))) = false := bne_eq_false_iff_eq.mpr c100
         clear c100
         by_cases c101 : 0 ≤ (l0_0.length : Int)
         ·rw [if_pos c101] at H
          have c101b0 : decide (0 ≤ (l0_0.length : Int)) = true := decide_eq_true c101
          have c101b1 : decide (0 ≤ l0_0.length) = true := decide_eq_true (by omega)
          clear c101
          by_cases c102 : (l0_0.length : Int) < (t508.length : Int)
          ·rw [if_pos c102] at H
           have c102b0 : decide ((l0_0.length : Int) < (t508.length : Int)) = true := decide_eq_true c102
           have c102b1 : decide (l0_0.length < t508.length) = true := decide_eq_true (Int.ofNat_lt.mp c102)
           clear c102
           by_cases c103 : (((rd_T23 t508 (l0_0.length : Int)).f0) == a2_0 && (((rd_T23 t508 (l0_0.length : Int)).f1) == a2_1 && (((rd_T23 t508 (l0_0.length : Int)).f2) == a2_2 && (((rd_T23 t508 (l0_0.length : Int)).f3) == a2_3 && (((rd_T23 t508 (l0_0.length : Int)).f4) == a2_4 && (((rd_T23 t508 (l0_0.length : Int)).f5) == a2_5 && (((rd_T23 t508 (l0_0.length : Int)).f6) == a2_6 && ((((rd_T23 t508 (l0_0.length : Int)).f7).toList) == a2_7.toList)))))))) = true
           ·rw [if_pos c103] at H
            have c103b0 : (((rd_T23 t508 (l0_0.length : Int)).f0) == a2_0 && (((rd_T23 t508 (l0_0.length : Int)).f1) == a2_1 && (((rd_T23 t508 (l0_0.length : Int)).f2) == a2_2 && (((rd_T23 t508 (l0_0.length : Int)).f3) == a2_3 && (((rd_T23 t508 (l0_0.length : Int)).f4) == a2_4 && (((rd_T23 t508 (l0_0.length : Int)).f5) == a2_5 && (((rd_T23 t508 (l0_0.length : Int)).f6) == a2_6 && ((((rd_T23 t508 (l0_0.length : Int)).f7).toList) == a2_7.toList)))))))) = true := c103
            (try (have c103b1 : decide (((rd_T23 t508 (l0_0.length : Int)).f0) = a2_0 && (((rd_T23 t508 (l0_0.length : Int)).f1) == a2_1 && (((rd_T23 t508 (l0_0.length : Int)).f2) == a2_2 && (((rd_T23 t508 (l0_0.length : Int)).f3) == a2_3 && (((rd_T23 t508 (l0_0.length : Int)).f4) == a2_4 && (((rd_T23 t508 (l0_0.length : Int)).f5) == a2_5 && (((rd_T23 t508 (l0_0.length : Int)).f6) == a2_6 && ((((rd_T23 t508 (l0_0.length : Int)).f7).toList) == a2_7.toList)))))))) = true := by simpa using c103))
            (try (have c103b2 : (((rd_T23 t508 (l0_0.length : Int)).f0) == a2_0 && (((rd_T23 t508 (l0_0.length : Int)).f1) == a2_1 && (((rd_T23 t508 (l0_0.length : Int)).f2) == a2_2 && (((rd_T23 t508 (l0_0.length : Int)).f3) == a2_3 && (((rd_T23 t508 (l0_0.length : Int)).f4) == a2_4 && (((rd_T23 t508 (l0_0.length : Int)).f5) == a2_5 && (((rd_T23 t508 (l0_0.length : Int)).f6) == a2_6 && ((((rd_T23 t508 (l0_0.length : Int)).f7).toList) == a2_7.toList)))))))) = true := by simpa using c103))
            clear c103
            have c104b0 := eq_true (of_decide_eq_true (by first | (with_reducible assumption) | assumption) : 0 ≤ (l0_0.length : Int))
            by_cases c105 : (l0_0.length : Int) ≤ (t508.length : Int)
            ·rw [if_pos c105] at H
             have c105b0 := eq_true c105
             have c105b1 : decide ((l0_0.length : Int) ≤ (t508.length : Int)) = true := decide_eq_true c105
             clear c105
             obtain ⟨y522, hy522⟩ : ∃ y_ : List (S23), y_ = (t508.take ((l0_0.length : Int) : Int).toNat) := ⟨_, rfl⟩
             replace H : ((haywainlaw22_As.f kj26 y522).bind fun t526 => ((haywainlaw22_As.f kj26 l0_0).bind fun t529 => ((haywainref22_Same.f kj26 t526 t529).bind fun t532 => (if t532 = true then ((haywainlaw22_knows.f kj26).bind fun t533 => (some t533)) else (none))))) = some r := by first | (rw [hy522]; with_reducible exact H) | (have H2_ := (Option.bind_some _ _).symm.trans H; rw [hy522]; with_reducible exact H2_) | (have H2_ := (Option.bind_some _ _).symm.trans H; with_reducible exact H2_) | with_reducible exact H | (rw [hy522]; exact H) | exact H
             have Ny522 := Aside0.mk hy522
             clear hy522
             replace H := Option.bind_eq_some_iff.mp H
             obtain ⟨t526, A1060, H⟩ := H
             replace H : ((haywainlaw22_As.f kj26 l0_0).bind fun t529 => ((haywainref22_Same.f kj26 t526 t529).bind fun t532 => (if t532 = true then ((haywainlaw22_knows.f kj26).bind fun t533 => (some t533)) else (none)))) = some r := H
             have A106 := Aside0.mk A1060
             clear A1060
             replace H := Option.bind_eq_some_iff.mp H
             obtain ⟨t529, A1070, H⟩ := H
             replace H : ((haywainref22_Same.f kj26 t526 t529).bind fun t532 => (if t532 = true then ((haywainlaw22_knows.f kj26).bind fun t533 => (some t533)) else (none))) = some r := H
             have A107 := Aside0.mk A1070
             clear A1070
             replace H := Option.bind_eq_some_iff.mp H
             obtain ⟨t532, A1080, H⟩ := H
             replace H : (if t532 = true then ((haywainlaw22_knows.f kj26).bind fun t533 => (some t533)) else (none)) = some r := H
             have A108 := Aside0.mk A1080
             clear A1080
             by_cases c109 : t532 = true
             ·subst c109
              have H1 : ((haywainlaw22_knows.f kj26).bind fun t533 => (some t533)) = some r := by rw [if_pos rfl] at H; exact H
              clear H
              have H := H1
              clear H1
              replace H := Option.bind_eq_some_iff.mp H
              obtain ⟨t533, A1100, H⟩ := H
              replace H : (some t533) = some r := H
              have A110 := Aside0.mk A1100
              clear A1100
              obtain rfl := Option.some.inj H
              have hnb111 := NB470_471.out
              have hnc111 := NB471_470.out
              have hnb112 := NB470_482.out
              have hnc112 := NB482_470.out
              have hcz113_0 : wc.cell? ⟨gb470, 0, none⟩ = some (.slice A0_0 l0_0.length c0_0) := (blk_cell BK470.out 0).trans rfl
              have hfz113_0 := blk_frozen BK470.out 0
              have hnb114 := NB471_482.out
              have hnc114 := NB482_471.out
              have hcz115_0 : wc.cell? ⟨gb471, 0, none⟩ = some (.int .i64 a2_0) := (blk_cell BK471.out 0).trans rfl
              have hcz115_1 : wc.cell? ⟨gb471, 1, none⟩ = some (.int .i64 a2_1) := (blk_cell BK471.out 1).trans rfl
              have hcz115_2 : wc.cell? ⟨gb471, 2, none⟩ = some (.int .i64 a2_2) := (blk_cell BK471.out 2).trans rfl
              have hcz115_3 : wc.cell? ⟨gb471, 3, none⟩ = some (.int .i64 a2_3) := (blk_cell BK471.out 3).trans rfl
              have hcz115_4 : wc.cell? ⟨gb471, 4, none⟩ = some (.int .i64 a2_4) := (blk_cell BK471.out 4).trans rfl
              have hcz115_5 : wc.cell? ⟨gb471, 5, none⟩ = some (.int .i64 a2_5) := (blk_cell BK471.out 5).trans rfl
              have hcz115_6 : wc.cell? ⟨gb471, 6, none⟩ = some (.int .i64 a2_6) := (blk_cell BK471.out 6).trans rfl
              have hcz115_7 : wc.cell? ⟨gb471, 7, none⟩ = some (.string a2_7) := (blk_cell BK471.out 7).trans rfl
              have hfz115_0 := blk_frozen BK471.out 0
              have hfz115_1 := blk_frozen BK471.out 1
              have hfz115_2 := blk_frozen BK471.out 2
              have hfz115_3 := blk_frozen BK471.out 3
              have hfz115_4 := blk_frozen BK471.out 4
              have hfz115_5 := blk_frozen BK471.out 5
              have hfz115_6 := blk_frozen BK471.out 6
              have hfz115_7 := blk_frozen BK471.out 7
              try go_wp2_with (first | ((with_reducible refine gate_dst (N := 84) rfl ?_); (try (refine gate_guard (by rfl) ?_; dsimp only)); refine Kd.R_lit k23 _ 23 ?hg (N := 84) ?hd (xs := ([(⟨a2_0, a2_1, a2_2, a2_3, a2_4, a2_5, a2_6, a2_7⟩ : S23)] : List (S23))) (inner := [.int .i64 a2_0, .int .i64 a2_1, .int .i64 a2_2, .int .i64 a2_3, .int .i64 a2_4, .int .i64 a2_5, .int .i64 a2_6, .string a2_7]) (ok := fun _ => True) (okp := fun _ => True) ?hr ?hp (fun _ hk => hk) trivial (Below.refl _ _) (Nat.le_refl _) (by simp) ?_; (case hd => rfl); (case hg => rfl); (case hr => first | (go_simp; done) | (go_simp; rfl)); (case hp => exact (Reps.c8 (show Kd.M k23 _ _ _ (⟨a2_0, a2_1, a2_2, a2_3, a2_4, a2_5, a2_6, a2_7⟩ : S23) [.int .i64 a2_0, .int .i64 a2_1, .int .i64 a2_2, .int .i64 a2_3, .int .i64 a2_4, .int .i64 a2_5, .int .i64 a2_6, .string a2_7] from (k23_mkM _ _ _ (⟨a2_0, a2_1, a2_2, a2_3, a2_4, a2_5, a2_6, a2_7⟩ : S23) )) (Reps.none _ _))); intro v506 w116 ho117 hb hg_ hnew_; clear hg_ hnew_; (first | rw [← Ny505.out] at ho117 | (simp only [Int.reduceToNat] at ho117; rw [← Ny505.out] at ho117)); have n0_ := Aside0.mk (Kd.R_elder' (by (with_reducible repeat (first | apply Kd.R_alloc | apply Kd.R_drewN | apply Kd.R_drew)); exact HO_483000.out) (Kd.R_base ho117) hb); have n1_ := Aside0.mk (Kd.R_lower (Kd.R_newB (Kd.R_new' ho117 (Kd.R_lt (by (with_reducible repeat (first | apply Kd.R_alloc | apply Kd.R_drewN | apply Kd.R_drew)); exact HO_483000.out))) (g := gb471) (o := .cells #[.int .i64 a2_0, .int .i64 a2_1, .int .i64 a2_2, .int .i64 a2_3, .int .i64 a2_4, .int .i64 a2_5, .int .i64 a2_6, .string a2_7] 23 (0, 0)) (by (with_reducible repeat (first | refine blk_drewN ?_ _ | refine blk_drew ?_ | refine blk_alloc ?_ _)); exact BK471.out)) (below_size (by repeat (first | (with_reducible first | exact HB.out | apply below_alloc | apply pw_below_drewN | apply below_drew1 | refine below_set ?_ GE470.out | refine below_set ?_ GE471.out | refine below_set ?_ GE482.out) | exact HB.out)))); have n2_ := Aside0.mk (blk_below (g := gb470) (o := .cells #[.slice A0_0 l0_0.length c0_0] 26 (0, 0)) (by (with_reducible repeat (first | refine blk_drewN ?_ _ | refine blk_drew ?_ | refine blk_alloc ?_ _)); exact BK470.out) hb); have n3_ := Aside0.mk (blk_below (g := gb471) (o := .cells #[.int .i64 a2_0, .int .i64 a2_1, .int .i64 a2_2, .int .i64 a2_3, .int .i64 a2_4, .int .i64 a2_5, .int .i64 a2_6, .string a2_7] 23 (0, 0)) (by (with_reducible repeat (first | refine blk_drewN ?_ _ | refine blk_drew ?_ | refine blk_alloc ?_ _)); exact BK471.out) hb); have n4_ := Aside0.mk (blk_below (g := gb482) (o := .cells #[.slice Ao32 t478.length co32] 26 (0, 0)) (by (with_reducible repeat (first | refine blk_drewN ?_ _ | refine blk_drew ?_ | refine blk_alloc ?_ _)); exact BK482.out) hb); have n5_ := Aside0.mk (below_step (by repeat (first | (with_reducible first | exact HB.out | apply below_alloc | apply pw_below_drewN | apply below_drew1 | refine below_set ?_ GE470.out | refine below_set ?_ GE471.out | refine below_set ?_ GE482.out) | exact HB.out)) hb); clear HO_483000; clear BK470; clear BK471; clear BK482; clear HB; have HO_483000 := n0_; have HO507 := n1_; have BK470 := n2_; have BK471 := n3_; have BK482 := n4_; have HB := n5_; clear n0_ n1_ n2_ n3_ n4_ n5_; clear hb ho117; obtain ⟨Ao118, co118, eo118⟩ := Kd.R_slice HO507.out; subst eo118) | ((with_reducible refine gate_callee (f := 15) rfl ?_); refine goesL_ (some 85) rfl rfl Try.func15 (by kernel_rfl) rfl #[.agg #[.slice A0_0 l0_0.length c0_0], .slice Ao118 y505.length co118] rfl (by (try simp only [List.map_toArray, List.map_cons, List.map_nil]); first | done | rfl | (simp only [List.length_drop, List.length_take]; rfl)) ?_; (with_reducible refine (net_Send.calls kj26 _ _ l0_0 _ _ y505 t508 t511 _ ?side1 ?side2 ?side3 ?side4 A70.out).mono ?_); (case side1 => repeat (first | exact (Kd.C_below HR0_0.out HB.out) | (with_reducible refine Kd.C_alloc ?_ _) | (with_reducible refine Kd.C_drewN ?_ _) | (with_reducible refine Kd.C_drew ?_))); (case side2 => exact HC0_0.out); (case side3 => repeat (first | exact (Kd.R_reads' HO507.out).2.2 | (with_reducible refine Kd.C_alloc ?_ _) | (with_reducible refine Kd.C_drewN ?_ _) | (with_reducible refine Kd.C_drew ?_))); (case side4 => exact (Kd.R_reads' HO507.out).2.1); rintro e w119 ⟨v509, rfl, ho0, hb⟩; refine ⟨_, rfl, ?_⟩; have n0_ := Aside0.mk (Kd.R_elder' (by (with_reducible repeat (first | apply Kd.R_alloc | apply Kd.R_drewN | apply Kd.R_drew)); exact HO_483000.out) (Kd.R_base ho0) hb); have n1_ := Aside0.mk (Kd.R_elder' (by (with_reducible repeat (first | apply Kd.R_alloc | apply Kd.R_drewN | apply Kd.R_drew)); exact HO507.out) (Kd.R_base ho0) hb); have n2_ := Aside0.mk (Kd.R_lower (Kd.R_newB (Kd.R_new' (Kd.R_new' ho0 (Kd.R_lt (by (with_reducible repeat (first | apply Kd.R_alloc | apply Kd.R_drewN | apply Kd.R_drew)); exact HO_483000.out))) (Kd.R_lt (by (with_reducible repeat (first | apply Kd.R_alloc | apply Kd.R_drewN | apply Kd.R_drew)); exact HO507.out))) (g := gb471) (o := .cells #[.int .i64 a2_0, .int .i64 a2_1, .int .i64 a2_2, .int .i64 a2_3, .int .i64 a2_4, .int .i64 a2_5, .int .i64 a2_6, .string a2_7] 23 (0, 0)) (by (with_reducible repeat (first | refine blk_drewN ?_ _ | refine blk_drew ?_ | refine blk_alloc ?_ _)); exact BK471.out)) (below_size (by repeat (first | (with_reducible first | exact HB.out | apply below_alloc | apply pw_below_drewN | apply below_drew1 | refine below_set ?_ GE470.out | refine below_set ?_ GE471.out | refine below_set ?_ GE482.out) | exact HB.out)))); have n3_ := Aside0.mk (blk_below (g := gb470) (o := .cells #[.slice A0_0 l0_0.length c0_0] 26 (0, 0)) (by (with_reducible repeat (first | refine blk_drewN ?_ _ | refine blk_drew ?_ | refine blk_alloc ?_ _)); exact BK470.out) hb); have n4_ := Aside0.mk (blk_below (g := gb471) (o := .cells #[.int .i64 a2_0, .int .i64 a2_1, .int .i64 a2_2, .int .i64 a2_3, .int .i64 a2_4, .int .i64 a2_5, .int .i64 a2_6, .string a2_7] 23 (0, 0)) (by (with_reducible repeat (first | refine blk_drewN ?_ _ | refine blk_drew ?_ | refine blk_alloc ?_ _)); exact BK471.out) hb); have n5_ := Aside0.mk (blk_below (g := gb482) (o := .cells #[.slice Ao32 t478.length co32] 26 (0, 0)) (by (with_reducible repeat (first | refine blk_drewN ?_ _ | refine blk_drew ?_ | refine blk_alloc ?_ _)); exact BK482.out) hb); have n6_ := Aside0.mk (below_step (by repeat (first | (with_reducible first | exact HB.out | apply below_alloc | apply pw_below_drewN | apply below_drew1 | refine below_set ?_ GE470.out | refine below_set ?_ GE471.out | refine below_set ?_ GE482.out) | exact HB.out)) hb); clear HO_483000; clear HO507; clear BK470; clear BK471; clear BK482; clear HB; have HO_483000 := n0_; have HO507 := n1_; have HO510 := n2_; have BK470 := n3_; have BK471 := n4_; have BK482 := n5_; have HB := n6_; clear n0_ n1_ n2_ n3_ n4_ n5_ n6_; (try clear hb); (try clear hb2); (try clear hk); (try clear hi); (try clear ho0)) | ((with_reducible refine gate_dst (N := 12) rfl ?_); (try (refine gate_guard (by rfl) ?_; dsimp only)); refine box_event ?hg (N := 12) ?hd (cs := #[.slice none 0 0]) (t := 26) ?hr ?_; (case hd => rfl); (case hg => rfl); (case hr => first | (go_simp; done) | (go_simp; rfl)); intro gb512 hg w120 hbox hb; have n0_ := Aside0.mk (Kd.R_below (by (with_reducible repeat (first | apply Kd.R_alloc | apply Kd.R_drewN | apply Kd.R_drew)); exact HO_483000.out) hb); have n1_ := Aside0.mk (Kd.R_below (by (with_reducible repeat (first | apply Kd.R_alloc | apply Kd.R_drewN | apply Kd.R_drew)); exact HO507.out) hb); have n2_ := Aside0.mk (Kd.R_below (by (with_reducible repeat (first | apply Kd.R_alloc | apply Kd.R_drewN | apply Kd.R_drew)); exact HO510.out) hb); have n3_ := Aside0.mk (blk_below (g := gb470) (o := .cells #[.slice A0_0 l0_0.length c0_0] 26 (0, 0)) (by (with_reducible repeat (first | refine blk_drewN ?_ _ | refine blk_drew ?_ | refine blk_alloc ?_ _)); exact BK470.out) hb); have n4_ := Aside0.mk (blk_below (g := gb471) (o := .cells #[.int .i64 a2_0, .int .i64 a2_1, .int .i64 a2_2, .int .i64 a2_3, .int .i64 a2_4, .int .i64 a2_5, .int .i64 a2_6, .string a2_7] 23 (0, 0)) (by (with_reducible repeat (first | refine blk_drewN ?_ _ | refine blk_drew ?_ | refine blk_alloc ?_ _)); exact BK471.out) hb); have n5_ := Aside0.mk (blk_below (g := gb482) (o := .cells #[.slice Ao32 t478.length co32] 26 (0, 0)) (by (with_reducible repeat (first | refine blk_drewN ?_ _ | refine blk_drew ?_ | refine blk_alloc ?_ _)); exact BK482.out) hb); have n6_ := Aside0.mk (below_step (by repeat (first | (with_reducible first | exact HB.out | apply below_alloc | apply pw_below_drewN | apply below_drew1 | refine below_set ?_ GE470.out | refine below_set ?_ GE471.out | refine below_set ?_ GE482.out) | exact HB.out)) hb); have n7_ := Aside0.mk (hbox); have n8_ := Aside0.mk ((by rw [hg]; exact (below_size (by repeat (first | (with_reducible first | exact HB.out | apply below_alloc | apply pw_below_drewN | apply below_drew1 | refine below_set ?_ GE470.out | refine below_set ?_ GE471.out | refine below_set ?_ GE482.out) | exact HB.out))) : w.heap.size ≤ gb512)); have n9_ := Aside0.mk ((by rw [hg]; exact (below_size (by repeat (first | (with_reducible first | exact HB.out | apply below_alloc | apply pw_below_drewN | apply below_drew1 | refine below_set ?_ GE470.out | refine below_set ?_ GE471.out | refine below_set ?_ GE482.out) | exact HB.out))) : w.heap.size ≤ gb512)); have n10_ := Aside0.mk ((by rw [hg]; exact Nat.ne_of_lt (blk_lt (g := gb470) (o := .cells #[.slice A0_0 l0_0.length c0_0] 26 (0, 0)) (by (with_reducible repeat (first | refine blk_drewN ?_ _ | refine blk_drew ?_ | refine blk_alloc ?_ _)); exact BK470.out)) : gb470 ≠ gb512)); have n11_ := Aside0.mk ((by rw [hg]; exact Nat.ne_of_gt (blk_lt (g := gb470) (o := .cells #[.slice A0_0 l0_0.length c0_0] 26 (0, 0)) (by (with_reducible repeat (first | refine blk_drewN ?_ _ | refine blk_drew ?_ | refine blk_alloc ?_ _)); exact BK470.out)) : gb512 ≠ gb470)); have n12_ := Aside0.mk ((by rw [hg]; exact Nat.ne_of_lt (blk_lt (g := gb471) (o := .cells #[.int .i64 a2_0, .int .i64 a2_1, .int .i64 a2_2, .int .i64 a2_3, .int .i64 a2_4, .int .i64 a2_5, .int .i64 a2_6, .string a2_7] 23 (0, 0)) (by (with_reducible repeat (first | refine blk_drewN ?_ _ | refine blk_drew ?_ | refine blk_alloc ?_ _)); exact BK471.out)) : gb471 ≠ gb512)); have n13_ := Aside0.mk ((by rw [hg]; exact Nat.ne_of_gt (blk_lt (g := gb471) (o := .cells #[.int .i64 a2_0, .int .i64 a2_1, .int .i64 a2_2, .int .i64 a2_3, .int .i64 a2_4, .int .i64 a2_5, .int .i64 a2_6, .string a2_7] 23 (0, 0)) (by (with_reducible repeat (first | refine blk_drewN ?_ _ | refine blk_drew ?_ | refine blk_alloc ?_ _)); exact BK471.out)) : gb512 ≠ gb471)); have n14_ := Aside0.mk ((by rw [hg]; exact Nat.ne_of_lt (blk_lt (g := gb482) (o := .cells #[.slice Ao32 t478.length co32] 26 (0, 0)) (by (with_reducible repeat (first | refine blk_drewN ?_ _ | refine blk_drew ?_ | refine blk_alloc ?_ _)); exact BK482.out)) : gb482 ≠ gb512)); have n15_ := Aside0.mk ((by rw [hg]; exact Nat.ne_of_gt (blk_lt (g := gb482) (o := .cells #[.slice Ao32 t478.length co32] 26 (0, 0)) (by (with_reducible repeat (first | refine blk_drewN ?_ _ | refine blk_drew ?_ | refine blk_alloc ?_ _)); exact BK482.out)) : gb512 ≠ gb482)); clear HO_483000; clear HO507; clear HO510; clear BK470; clear BK471; clear BK482; clear HB; have HO_483000 := n0_; have HO507 := n1_; have HO510 := n2_; have BK470 := n3_; have BK471 := n4_; have BK482 := n5_; have HB := n6_; have BK512 := n7_; have GW512 := n8_; have GE512 := n9_; have NB470_512 := n10_; have NB512_470 := n11_; have NB471_512 := n12_; have NB512_471 := n13_; have NB482_512 := n14_; have NB512_482 := n15_; clear n0_ n1_ n2_ n3_ n4_ n5_ n6_ n7_ n8_ n9_ n10_ n11_ n12_ n13_ n14_ n15_; clear hb hbox hg; obtain ⟨Ao121, co121, eo121⟩ := Kd.R_slice HO510.out; subst eo121; have hnb122 := NB512_470.out; have hnc122 := NB470_512.out; have hnb123 := NB512_471.out; have hnc123 := NB471_512.out; have hnb124 := NB512_482.out; have hnc124 := NB482_512.out; have hcz125_0 : w120.cell? ⟨gb512, 0, none⟩ = some (.slice none 0 0) := (blk_cell BK512.out 0).trans rfl; have hfz125_0 := blk_frozen BK512.out 0))
              have n0_ : Aside0 (Kd.R k23 23 (w120.setCell ⟨gb512, 0, none⟩ (.slice Ao121 t508.length co121)) w.heap.size (fun k_ => some k_ ≠ (.slice Ao118 y505.length co118 : Value).ownBlock ∧ some k_ ≠ (.slice Ao121 t508.length co121 : Value).ownBlock ∧ k_ ≠ gb471) (.slice Ao32 t478.length co32) t478) := ⟨by (with_reducible repeat (first | apply Kd.R_alloc | apply Kd.R_drewN | apply Kd.R_drew)); exact Kd.R_mono (Kd.R_far (p := ⟨gb512, 0, none⟩) (Kd.R_types HO_483000.out BK512.out (by decide)) (fun _ hk => hk.2) (.slice Ao121 t508.length co121)) (fun _ hk => ⟨hk.1.1.2, ⟨hk.1.2, hk.1.1.1⟩⟩)⟩
              have n1_ : Aside0 (Kd.R k23 23 (w120.setCell ⟨gb512, 0, none⟩ (.slice Ao121 t508.length co121)) w.heap.size (fun k_ => some k_ ≠ (.slice Ao32 t478.length co32 : Value).ownBlock ∧ some k_ ≠ (.slice Ao121 t508.length co121 : Value).ownBlock ∧ k_ ≠ gb471) (.slice Ao118 y505.length co118) y505) := ⟨by (with_reducible repeat (first | apply Kd.R_alloc | apply Kd.R_drewN | apply Kd.R_drew)); exact Kd.R_mono (Kd.R_far (p := ⟨gb512, 0, none⟩) (Kd.R_types HO507.out BK512.out (by decide)) (fun _ hk => hk.2) (.slice Ao121 t508.length co121)) (fun _ hk => ⟨hk.1.1.1.2, ⟨hk.1.2, hk.1.1.2⟩⟩)⟩
              have n2_ : Aside0 (Kd.R k23 23 (w120.setCell ⟨gb512, 0, none⟩ (.slice Ao121 t508.length co121)) w.heap.size (fun k_ => some k_ ≠ (.slice Ao32 t478.length co32 : Value).ownBlock ∧ some k_ ≠ (.slice Ao118 y505.length co118 : Value).ownBlock ∧ k_ ≠ gb471) (.slice Ao121 t508.length co121) t508) := ⟨by (with_reducible repeat (first | apply Kd.R_alloc | apply Kd.R_drewN | apply Kd.R_drew)); exact Kd.R_mono (Kd.R_far (p := ⟨gb512, 0, none⟩) (Kd.R_types HO510.out BK512.out (by decide)) (fun _ hk => hk.2) (.slice Ao121 t508.length co121)) (fun _ hk => ⟨hk.1.1.1.2, ⟨hk.1.1.2, hk.1.2⟩⟩)⟩
              have n3_ : Aside0 ((w120.setCell ⟨gb512, 0, none⟩ (.slice Ao121 t508.length co121)).heap[gb470]? = some (.cells #[.slice A0_0 l0_0.length c0_0] 26 (0, 0))) := ⟨by (with_reducible repeat (first | refine blk_drewN ?_ _ | refine blk_drew ?_ | refine blk_alloc ?_ _)); refine blk_far ?_ NB470_512.out _; (with_reducible repeat (first | refine blk_drewN ?_ _ | refine blk_drew ?_ | refine blk_alloc ?_ _)); exact BK470.out⟩
              have n4_ : Aside0 ((w120.setCell ⟨gb512, 0, none⟩ (.slice Ao121 t508.length co121)).heap[gb471]? = some (.cells #[.int .i64 a2_0, .int .i64 a2_1, .int .i64 a2_2, .int .i64 a2_3, .int .i64 a2_4, .int .i64 a2_5, .int .i64 a2_6, .string a2_7] 23 (0, 0))) := ⟨by (with_reducible repeat (first | refine blk_drewN ?_ _ | refine blk_drew ?_ | refine blk_alloc ?_ _)); refine blk_far ?_ NB471_512.out _; (with_reducible repeat (first | refine blk_drewN ?_ _ | refine blk_drew ?_ | refine blk_alloc ?_ _)); exact BK471.out⟩
              have n5_ : Aside0 ((w120.setCell ⟨gb512, 0, none⟩ (.slice Ao121 t508.length co121)).heap[gb482]? = some (.cells #[.slice Ao32 t478.length co32] 26 (0, 0))) := ⟨by (with_reducible repeat (first | refine blk_drewN ?_ _ | refine blk_drew ?_ | refine blk_alloc ?_ _)); refine blk_far ?_ NB482_512.out _; (with_reducible repeat (first | refine blk_drewN ?_ _ | refine blk_drew ?_ | refine blk_alloc ?_ _)); exact BK482.out⟩
              have n6_ : Aside0 ((w120.setCell ⟨gb512, 0, none⟩ (.slice Ao121 t508.length co121)).heap[gb512]? = some (.cells #[.slice Ao121 t508.length co121] 26 (0, 0))) := ⟨by (with_reducible repeat (first | refine blk_drewN ?_ _ | refine blk_drew ?_ | refine blk_alloc ?_ _)); refine blk_put (cs := #[.slice none 0 0]) ?_ 0 _ rfl; (with_reducible repeat (first | refine blk_drewN ?_ _ | refine blk_drew ?_ | refine blk_alloc ?_ _)); exact BK512.out⟩
              have n7_ : Aside0 (Below w.heap.size w (w120.setCell ⟨gb512, 0, none⟩ (.slice Ao121 t508.length co121))) := ⟨by repeat (first | (with_reducible first | exact HB.out | apply below_alloc | apply pw_below_drewN | apply below_drew1 | refine below_set ?_ GE470.out | refine below_set ?_ GE471.out | refine below_set ?_ GE482.out | refine below_set ?_ GE512.out) | exact HB.out)⟩
              (try clear HO_483000)
              (try clear HO507)
              (try clear HO510)
              (try clear BK470)
              (try clear BK471)
              (try clear BK482)
              (try clear BK512)
              (try clear HB)
              generalize (w120.setCell ⟨gb512, 0, none⟩ (.slice Ao121 t508.length co121)) = w126 at n0_ n1_ n2_ n3_ n4_ n5_ n6_ n7_ ⊢
              have HO_483000 := n0_
              have HO507 := n1_
              have HO510 := n2_
              have BK470 := n3_
              have BK471 := n4_
              have BK482 := n5_
              have BK512 := n6_
              have HB := n7_
              clear n0_ n1_ n2_ n3_ n4_ n5_ n6_ n7_
              have n0_ := Aside0.mk (Kd.R_drew HO_483000.out)
              have n1_ := Aside0.mk (Kd.R_drew HO507.out)
              have n2_ := Aside0.mk (Kd.R_drew HO510.out)
              have n3_ := Aside0.mk (blk_drew BK470.out)
              have n4_ := Aside0.mk (blk_drew BK471.out)
              have n5_ := Aside0.mk (blk_drew BK482.out)
              have n6_ := Aside0.mk (blk_drew BK512.out)
              have n7_ := Aside0.mk (below_drew1 HB.out)
              clear HO_483000
              clear HO507
              clear HO510
              clear BK470
              clear BK471
              clear BK482
              clear BK512
              clear HB
              have HO_483000 := n0_
              have HO507 := n1_
              have HO510 := n2_
              have BK470 := n3_
              have BK471 := n4_
              have BK482 := n5_
              have BK512 := n6_
              have HB := n7_
              clear n0_ n1_ n2_ n3_ n4_ n5_ n6_ n7_
              have p521 : 0 ≤ ((l0_0.length : Int) : Int) := of_decide_eq_true (by first | (with_reducible assumption) | assumption)
              have q521 : (l0_0.length : Int) < (t508.length : Int) := of_decide_eq_true (by first | (with_reducible assumption) | assumption)
              obtain ⟨ad521, e521, hx521_0, hx521_1, hx521_2, hx521_3, hx521_4, hx521_5, hx521_6, hx521_7⟩ := at_T23 (Kd.R_reads' HO510.out).2.2 (l0_0.length : Int) p521 q521
              cases e521
              (try simp only [Go.IntWalk.toNatUp] at hx521_0)
              (try simp only [Go.IntWalk.toNatUp] at hx521_1)
              (try simp only [Go.IntWalk.toNatUp] at hx521_2)
              (try simp only [Go.IntWalk.toNatUp] at hx521_3)
              (try simp only [Go.IntWalk.toNatUp] at hx521_4)
              (try simp only [Go.IntWalk.toNatUp] at hx521_5)
              (try simp only [Go.IntWalk.toNatUp] at hx521_6)
              (try simp only [Go.IntWalk.toNatUp] at hx521_7)
              replace p521 := eq_true p521
              replace q521 := eq_true q521
              have q128 : ((l0_0.length : Int) : Int) ≤ ((t508.length : Int) : Int) := of_decide_eq_true (by first | (with_reducible assumption) | assumption)
              obtain ⟨i0128, hi0128, _, hsz128, _⟩ := info_parts info23
              have hroom128 : t508.length ≤ co121 := (Kd.R_reads' HO510.out).2.1
              have hC128 : Kd.C k23 _ (some ad521) t508.length t508 := (Kd.R_reads' HO510.out).2.2
              have hcut128 := cut_to (P := Try.prog) 24 23 .i64 Try.underlying24 hi0128 (some ad521) t508.length co121 (l0_0.length : Int) (of_decide_eq_true (by first | (with_reducible assumption) | assumption)) q128 hroom128
              have hr128 := Kd.C_take (m := ((l0_0.length : Int) : Int).toNat) hC128 (by omega)
              have hy128 : y522.length = ((l0_0.length : Int) : Int).toNat := (by rw [Ny522.out, List.length_take]; omega)
              rw [← Ny522.out] at hr128
              rw [← hy128] at hcut128
              have HR525 := Aside0.mk hr128
              have HC525 := Aside0.mk (show y522.length ≤ co121 from by omega)
              clear hr128 hC128 hroom128 hi0128 hsz128
              have KY128 := Aside0.mk hy128
              clear hy128
              have KL128 := Aside0.mk (show ((l0_0.length : Int) : Int).toNat ≤ t508.length from by omega)
              replace q128 := eq_true q128
              refine start_ (n := 40) (S := fun w' => w'.cell? ⟨gb512, 0, none⟩ = some (.slice (some ad521) t508.length co121) ∧ w'.cell? ⟨gb470, 0, none⟩ = some (.slice A0_0 l0_0.length c0_0) ∧ w'.cell? ⟨gb471, 0, none⟩ = some (.int .i64 a2_0) ∧ w'.cell? ⟨gb471, 1, none⟩ = some (.int .i64 a2_1) ∧ w'.cell? ⟨gb471, 2, none⟩ = some (.int .i64 a2_2) ∧ w'.cell? ⟨gb471, 3, none⟩ = some (.int .i64 a2_3) ∧ w'.cell? ⟨gb471, 4, none⟩ = some (.int .i64 a2_4) ∧ w'.cell? ⟨gb471, 5, none⟩ = some (.int .i64 a2_5) ∧ w'.cell? ⟨gb471, 6, none⟩ = some (.int .i64 a2_6) ∧ w'.cell? ⟨gb471, 7, none⟩ = some (.string a2_7) ∧ w'.cell? (ad521.add (l0_0.length * 8)) = some (.int .i64 ((rd_T23 t508 (l0_0.length : Int)).f0)) ∧ w'.cell? ⟨(ad521.add (l0_0.length * 8)).block, (ad521.add (l0_0.length * 8)).off + 1, none⟩ = some (.int .i64 ((rd_T23 t508 (l0_0.length : Int)).f1)) ∧ w'.cell? ⟨(ad521.add (l0_0.length * 8)).block, (ad521.add (l0_0.length * 8)).off + 2, none⟩ = some (.int .i64 ((rd_T23 t508 (l0_0.length : Int)).f2)) ∧ w'.cell? ⟨(ad521.add (l0_0.length * 8)).block, (ad521.add (l0_0.length * 8)).off + 3, none⟩ = some (.int .i64 ((rd_T23 t508 (l0_0.length : Int)).f3)) ∧ w'.cell? ⟨(ad521.add (l0_0.length * 8)).block, (ad521.add (l0_0.length * 8)).off + 4, none⟩ = some (.int .i64 ((rd_T23 t508 (l0_0.length : Int)).f4)) ∧ w'.cell? ⟨(ad521.add (l0_0.length * 8)).block, (ad521.add (l0_0.length * 8)).off + 5, none⟩ = some (.int .i64 ((rd_T23 t508 (l0_0.length : Int)).f5)) ∧ w'.cell? ⟨(ad521.add (l0_0.length * 8)).block, (ad521.add (l0_0.length * 8)).off + 6, none⟩ = some (.int .i64 ((rd_T23 t508 (l0_0.length : Int)).f6)) ∧ w'.cell? ⟨(ad521.add (l0_0.length * 8)).block, (ad521.add (l0_0.length * 8)).off + 7, none⟩ = some (.string ((rd_T23 t508 (l0_0.length : Int)).f7))) (ds := []) #[false, false, false, false, false, false, false, false, false, false, false, false, false, false, false, false, false, false, false, false, false, false, false, false, false, false, false, false, false, false, false, false, false, false, false, false, false, false, false, false] (by kernel_rfl) rfl rfl ⟨(blk_cell BK512.out 0).trans rfl, (blk_cell BK470.out 0).trans rfl, (blk_cell BK471.out 0).trans rfl, (blk_cell BK471.out 1).trans rfl, (blk_cell BK471.out 2).trans rfl, (blk_cell BK471.out 3).trans rfl, (blk_cell BK471.out 4).trans rfl, (blk_cell BK471.out 5).trans rfl, (blk_cell BK471.out 6).trans rfl, (blk_cell BK471.out 7).trans rfl, hx521_0, hx521_1, hx521_2, hx521_3, hx521_4, hx521_5, hx521_6, hx521_7⟩ (fun hHeld => ?_); refine with_tabW haywainlaw22_NetAgain.tab11 haywainlaw22_NetAgain.bits11 (fun HT_ HW_ => ?_)
              generalize w126.drew = w127 at HO_483000 HO507 HO510 BK470 BK471 BK482 BK512 HB HR525 hx521_0 hx521_1 hx521_2 hx521_3 hx521_4 hx521_5 hx521_6 hx521_7 hHeld ⊢
              refine pure_ (i := 0) (N := some 100) (v := ?_) (a' := ?_) #[true, false, false, false, false, false, false, false, false, false, false, false, false, false, false, false, false, false, false, false, false, false, false, false, false, false, false, false, false, false, false, false, false, false, false, false, false, false, false, false] rfl rfl (any_of HT_.out (by kernel_rfl)) (fun _ _ _ h => h) (Or.inl ⟨by rfl, ?_⟩) ?_ ?_
              rotate_left
              ·intro w'
               go_simp
               with_reducible rfl
              rotate_left
              ·simp only [Act.put, List.setIfInBounds_toArray, List.set_cons_zero, List.set_cons_succ, i64_w, i32_w]
               rfl
              refine pure_ (i := 1) (N := some 101) (v := ?_) (a' := ?_) #[true, true, false, false, false, false, false, false, false, false, false, false, false, false, false, false, false, false, false, false, false, false, false, false, false, false, false, false, false, false, false, false, false, false, false, false, false, false, false, false] rfl rfl (any_of HT_.out (by kernel_rfl)) (fun _ _ _ h => h) (Or.inl ⟨by rfl, ?_⟩) ?_ ?_
              rotate_left
              ·intro w'
               go_simp
               with_reducible rfl
              rotate_left
              ·simp only [Act.put, List.setIfInBounds_toArray, List.set_cons_zero, List.set_cons_succ, i64_w, i32_w]
               rfl
              refine pure_ (i := 2) (N := some 102) (v := ?_) (a' := ?_) #[true, true, true, false, false, false, false, false, false, false, false, false, false, false, false, false, false, false, false, false, false, false, false, false, false, false, false, false, false, false, false, false, false, false, false, false, false, false, false, false] rfl rfl (any_of HT_.out (by kernel_rfl)) (fun _ _ _ h => h) (Or.inl ⟨by rfl, ?_⟩) ?_ ?_
              rotate_left
              ·intro w'
               go_simp
               with_reducible rfl
              rotate_left
              ·simp only [Act.put, List.setIfInBounds_toArray, List.set_cons_zero, List.set_cons_succ, i64_w, i32_w]
               rfl
              refine pure_ (i := 3) (N := some 103) (v := ?_) (a' := ?_) #[true, true, true, true, false, false, false, false, false, false, false, false, false, false, false, false, false, false, false, false, false, false, false, false, false, false, false, false, false, false, false, false, false, false, false, false, false, false, false, false] rfl rfl (any_of HT_.out (by kernel_rfl)) (fun _ _ _ h => h) (Or.inl ⟨by rfl, ?_⟩) ?_ ?_
              rotate_left
              ·intro w'
               go_simp
               with_reducible rfl
              rotate_left
              ·simp only [Act.put, List.setIfInBounds_toArray, List.set_cons_zero, List.set_cons_succ, i64_w, i32_w]
               rfl
              refine pure_ (i := 6) (N := some 106) (v := ?_) (a' := ?_) #[true, true, true, true, false, false, true, false, false, false, false, false, false, false, false, false, false, false, false, false, false, false, false, false, false, false, false, false, false, false, false, false, false, false, false, false, false, false, false, false] rfl rfl (any_of HT_.out (by kernel_rfl)) (fun _ _ _ h => h) (Or.inl ⟨by rfl, ?_⟩) ?_ ?_
              rotate_left
              ·intro w'
               go_simp
               with_reducible rfl
              rotate_left
              ·simp only [Act.put, List.setIfInBounds_toArray, List.set_cons_zero, List.set_cons_succ, i64_w, i32_w]
               rfl
              refine take_ (i := 4) (N := some 104) (v := ?_) (a' := ?_) #[true, true, true, true, true, false, true, false, false, false, false, false, false, false, false, false, false, false, false, false, false, false, false, false, false, false, false, false, false, false, false, false, false, false, false, false, false, false, false, false] rfl rfl (take_ofW HT_.out HW_.out (by kernel_rfl)) (fun _ _ _ h => h) (Or.inl ⟨by rfl, ?_⟩) hHeld ?_ ?_
              rotate_left
              ·rintro w' ⟨s0, s1, s2, s3, s4, s5, s6, s7, s8, s9, s10, s11, s12, s13, s14, s15, s16, s17⟩
               go_simp
               with_reducible rfl
              rotate_left
              ·simp only [Act.put, List.setIfInBounds_toArray, List.set_cons_zero, List.set_cons_succ, i64_w, i32_w]
               rfl
              refine pure_ (i := 5) (N := some 105) (v := ?_) (a' := ?_) #[true, true, true, true, true, true, true, false, false, false, false, false, false, false, false, false, false, false, false, false, false, false, false, false, false, false, false, false, false, false, false, false, false, false, false, false, false, false, false, false] rfl rfl (any_of HT_.out (by kernel_rfl)) (fun _ _ _ h => h) (Or.inl ⟨by rfl, ?_⟩) ?_ ?_
              rotate_left
              ·intro w'
               go_simp
               with_reducible rfl
              rotate_left
              ·simp only [Act.put, List.setIfInBounds_toArray, List.set_cons_zero, List.set_cons_succ, i64_w, i32_w]
               rfl
              refine take_ (i := 7) (N := some 107) (v := ?_) (a' := ?_) #[true, true, true, true, true, true, true, true, false, false, false, false, false, false, false, false, false, false, false, false, false, false, false, false, false, false, false, false, false, false, false, false, false, false, false, false, false, false, false, false] rfl rfl (take_ofW HT_.out HW_.out (by kernel_rfl)) (fun _ _ _ h => h) (Or.inl ⟨by rfl, ?_⟩) hHeld ?_ ?_
              rotate_left
              ·rintro w' ⟨s0, s1, s2, s3, s4, s5, s6, s7, s8, s9, s10, s11, s12, s13, s14, s15, s16, s17⟩
               go_simp
               with_reducible rfl
              rotate_left
              ·simp only [Act.put, List.setIfInBounds_toArray, List.set_cons_zero, List.set_cons_succ, i64_w, i32_w]
               rfl
              refine pure_ (i := 8) (N := some 108) (v := ?_) (a' := ?_) #[true, true, true, true, true, true, true, true, true, false, false, false, false, false, false, false, false, false, false, false, false, false, false, false, false, false, false, false, false, false, false, false, false, false, false, false, false, false, false, false] rfl rfl (any_of HT_.out (by kernel_rfl)) (fun _ _ _ h => h) (Or.inl ⟨by rfl, ?_⟩) ?_ ?_
              rotate_left
              ·intro w'
               go_simp
               with_reducible rfl
              rotate_left
              ·simp only [Act.put, List.setIfInBounds_toArray, List.set_cons_zero, List.set_cons_succ, i64_w, i32_w]
               rfl
              refine pure_ (i := 9) (N := some 109) (v := ?_) (a' := ?_) #[true, true, true, true, true, true, true, true, true, true, false, false, false, false, false, false, false, false, false, false, false, false, false, false, false, false, false, false, false, false, false, false, false, false, false, false, false, false, false, false] rfl rfl (any_of HT_.out (by kernel_rfl)) (fun _ _ _ h => h) (Or.inl ⟨by rfl, ?_⟩) ?_ ?_
              rotate_left
              ·intro w'
               go_simp
               with_reducible rfl
              rotate_left
              ·simp only [Act.put, List.setIfInBounds_toArray, List.set_cons_zero, List.set_cons_succ, i64_w, i32_w]
               rfl
              refine pure_ (i := 10) (N := some 110) (v := ?_) (a' := ?_) #[true, true, true, true, true, true, true, true, true, true, true, false, false, false, false, false, false, false, false, false, false, false, false, false, false, false, false, false, false, false, false, false, false, false, false, false, false, false, false, false] rfl rfl (any_of HT_.out (by kernel_rfl)) (fun _ _ _ h => h) (Or.inl ⟨by rfl, ?_⟩) ?_ ?_
              rotate_left
              ·intro w'
               go_simp
               with_reducible rfl
              rotate_left
              ·simp only [Act.put, List.setIfInBounds_toArray, List.set_cons_zero, List.set_cons_succ, i64_w, i32_w]
               rfl
              refine pure_ (i := 11) (N := some 111) (v := ?_) (a' := ?_) #[true, true, true, true, true, true, true, true, true, true, true, true, false, false, false, false, false, false, false, false, false, false, false, false, false, false, false, false, false, false, false, false, false, false, false, false, false, false, false, false] rfl rfl (any_of HT_.out (by kernel_rfl)) (fun _ _ _ h => h) (Or.inl ⟨by rfl, ?_⟩) ?_ ?_
              rotate_left
              ·intro w'
               go_simp
               with_reducible rfl
              rotate_left
              ·simp only [Act.put, List.setIfInBounds_toArray, List.set_cons_zero, List.set_cons_succ, i64_w, i32_w]
               rfl
              refine pure_ (i := 12) (N := some 112) (v := ?_) (a' := ?_) #[true, true, true, true, true, true, true, true, true, true, true, true, true, false, false, false, false, false, false, false, false, false, false, false, false, false, false, false, false, false, false, false, false, false, false, false, false, false, false, false] rfl rfl (any_of HT_.out (by kernel_rfl)) (fun _ _ _ h => h) (Or.inl ⟨by rfl, ?_⟩) ?_ ?_
              rotate_left
              ·intro w'
               go_simp
               with_reducible rfl
              rotate_left
              ·simp only [Act.put, List.setIfInBounds_toArray, List.set_cons_zero, List.set_cons_succ, i64_w, i32_w]
               rfl
              refine pure_ (i := 13) (N := some 113) (v := ?_) (a' := ?_) #[true, true, true, true, true, true, true, true, true, true, true, true, true, true, false, false, false, false, false, false, false, false, false, false, false, false, false, false, false, false, false, false, false, false, false, false, false, false, false, false] rfl rfl (any_of HT_.out (by kernel_rfl)) (fun _ _ _ h => h) (Or.inl ⟨by rfl, ?_⟩) ?_ ?_
              rotate_left
              ·intro w'
               go_simp
               with_reducible rfl
              rotate_left
              ·simp only [Act.put, List.setIfInBounds_toArray, List.set_cons_zero, List.set_cons_succ, i64_w, i32_w]
               rfl
              refine pure_ (i := 15) (N := some 115) (v := ?_) (a' := ?_) #[true, true, true, true, true, true, true, true, true, true, true, true, true, true, false, true, false, false, false, false, false, false, false, false, false, false, false, false, false, false, false, false, false, false, false, false, false, false, false, false] rfl rfl (any_of HT_.out (by kernel_rfl)) (fun _ _ _ h => h) (Or.inl ⟨by rfl, ?_⟩) ?_ ?_
              rotate_left
              ·intro w'
               go_simp
               with_reducible rfl
              rotate_left
              ·simp only [Act.put, List.setIfInBounds_toArray, List.set_cons_zero, List.set_cons_succ, i64_w, i32_w]
               rfl
              refine take_ (i := 14) (N := some 114) (v := ?_) (a' := ?_) #[true, true, true, true, true, true, true, true, true, true, true, true, true, true, true, true, false, false, false, false, false, false, false, false, false, false, false, false, false, false, false, false, false, false, false, false, false, false, false, false] rfl rfl (take_ofW HT_.out HW_.out (by kernel_rfl)) (fun _ _ _ h => h) (Or.inl ⟨by rfl, ?_⟩) hHeld ?_ ?_
              rotate_left
              ·rintro w' ⟨s0, s1, s2, s3, s4, s5, s6, s7, s8, s9, s10, s11, s12, s13, s14, s15, s16, s17⟩
               go_simp
               with_reducible rfl
              rotate_left
              ·simp only [Act.put, List.setIfInBounds_toArray, List.set_cons_zero, List.set_cons_succ, i64_w, i32_w]
               rfl
              refine take_ (i := 16) (N := some 116) (v := ?_) (a' := ?_) #[true, true, true, true, true, true, true, true, true, true, true, true, true, true, true, true, true, false, false, false, false, false, false, false, false, false, false, false, false, false, false, false, false, false, false, false, false, false, false, false] rfl rfl (take_ofW HT_.out HW_.out (by kernel_rfl)) (fun _ _ _ h => h) (Or.inl ⟨by rfl, ?_⟩) hHeld ?_ ?_
              rotate_left
              ·rintro w' ⟨s0, s1, s2, s3, s4, s5, s6, s7, s8, s9, s10, s11, s12, s13, s14, s15, s16, s17⟩
               go_simp
               with_reducible rfl
              rotate_left
              ·simp only [Act.put, List.setIfInBounds_toArray, List.set_cons_zero, List.set_cons_succ, i64_w, i32_w]
               rfl
              refine pure_ (i := 17) (N := some 117) (v := ?_) (a' := ?_) #[true, true, true, true, true, true, true, true, true, true, true, true, true, true, true, true, true, true, false, false, false, false, false, false, false, false, false, false, false, false, false, false, false, false, false, false, false, false, false, false] rfl rfl (any_of HT_.out (by kernel_rfl)) (fun _ _ _ h => h) (Or.inl ⟨by rfl, ?_⟩) ?_ ?_
              rotate_left
              ·intro w'
               go_simp
               with_reducible rfl
              rotate_left
              ·simp only [Act.put, List.setIfInBounds_toArray, List.set_cons_zero, List.set_cons_succ, i64_w, i32_w]
               rfl
              refine pure_ (i := 18) (N := some 118) (v := ?_) (a' := ?_) #[true, true, true, true, true, true, true, true, true, true, true, true, true, true, true, true, true, true, true, false, false, false, false, false, false, false, false, false, false, false, false, false, false, false, false, false, false, false, false, false] rfl rfl (any_of HT_.out (by kernel_rfl)) (fun _ _ _ h => h) (Or.inl ⟨by rfl, ?_⟩) ?_ ?_
              rotate_left
              ·intro w'
               go_simp
               with_reducible rfl
              rotate_left
              ·simp only [Act.put, List.setIfInBounds_toArray, List.set_cons_zero, List.set_cons_succ, i64_w, i32_w]
               rfl
              refine take_ (i := 19) (N := some 119) (v := ?_) (a' := ?_) #[true, true, true, true, true, true, true, true, true, true, true, true, true, true, true, true, true, true, true, true, false, false, false, false, false, false, false, false, false, false, false, false, false, false, false, false, false, false, false, false] rfl rfl (take_ofW HT_.out HW_.out (by kernel_rfl)) (fun _ _ _ h => h) (Or.inl ⟨by rfl, ?_⟩) hHeld ?_ ?_
              rotate_left
              ·rintro w' ⟨s0, s1, s2, s3, s4, s5, s6, s7, s8, s9, s10, s11, s12, s13, s14, s15, s16, s17⟩
               go_simp
               with_reducible rfl
              rotate_left
              ·simp only [Act.put, List.setIfInBounds_toArray, List.set_cons_zero, List.set_cons_succ, i64_w, i32_w]
               rfl
              refine take_ (i := 20) (N := some 120) (v := ?_) (a' := ?_) #[true, true, true, true, true, true, true, true, true, true, true, true, true, true, true, true, true, true, true, true, true, false, false, false, false, false, false, false, false, false, false, false, false, false, false, false, false, false, false, false] rfl rfl (take_ofW HT_.out HW_.out (by kernel_rfl)) (fun _ _ _ h => h) (Or.inl ⟨by rfl, ?_⟩) hHeld ?_ ?_
              rotate_left
              ·rintro w' ⟨s0, s1, s2, s3, s4, s5, s6, s7, s8, s9, s10, s11, s12, s13, s14, s15, s16, s17⟩
               go_simp
               with_reducible rfl
              rotate_left
              ·simp only [Act.put, List.setIfInBounds_toArray, List.set_cons_zero, List.set_cons_succ, i64_w, i32_w]
               rfl
              refine pure_ (i := 21) (N := some 121) (v := ?_) (a' := ?_) #[true, true, true, true, true, true, true, true, true, true, true, true, true, true, true, true, true, true, true, true, true, true, false, false, false, false, false, false, false, false, false, false, false, false, false, false, false, false, false, false] rfl rfl (any_of HT_.out (by kernel_rfl)) (fun _ _ _ h => h) (Or.inl ⟨by rfl, ?_⟩) ?_ ?_
              rotate_left
              ·intro w'
               go_simp
               with_reducible rfl
              rotate_left
              ·simp only [Act.put, List.setIfInBounds_toArray, List.set_cons_zero, List.set_cons_succ, i64_w, i32_w]
               rfl
              refine pure_ (i := 22) (N := some 122) (v := ?_) (a' := ?_) #[true, true, true, true, true, true, true, true, true, true, true, true, true, true, true, true, true, true, true, true, true, true, true, false, false, false, false, false, false, false, false, false, false, false, false, false, false, false, false, false] rfl rfl (any_of HT_.out (by kernel_rfl)) (fun _ _ _ h => h) (Or.inl ⟨by rfl, ?_⟩) ?_ ?_
              rotate_left
              ·intro w'
               go_simp
               with_reducible rfl
              rotate_left
              ·simp only [Act.put, List.setIfInBounds_toArray, List.set_cons_zero, List.set_cons_succ, i64_w, i32_w]
               rfl
              refine pure_ (i := 23) (N := some 123) (v := ?_) (a' := ?_) #[true, true, true, true, true, true, true, true, true, true, true, true, true, true, true, true, true, true, true, true, true, true, true, true, false, false, false, false, false, false, false, false, false, false, false, false, false, false, false, false] rfl rfl (any_of HT_.out (by kernel_rfl)) (fun _ _ _ h => h) (Or.inl ⟨by rfl, ?_⟩) ?_ ?_
              rotate_left
              ·intro w'
               go_simp
               with_reducible rfl
              rotate_left
              ·simp only [Act.put, List.setIfInBounds_toArray, List.set_cons_zero, List.set_cons_succ, i64_w, i32_w]
               rfl
              refine pure_ (i := 24) (N := some 124) (v := ?_) (a' := ?_) #[true, true, true, true, true, true, true, true, true, true, true, true, true, true, true, true, true, true, true, true, true, true, true, true, true, false, false, false, false, false, false, false, false, false, false, false, false, false, false, false] rfl rfl (any_of HT_.out (by kernel_rfl)) (fun _ _ _ h => h) (Or.inl ⟨by rfl, ?_⟩) ?_ ?_
              rotate_left
              ·intro w'
               go_simp
               with_reducible rfl
              rotate_left
              ·simp only [Act.put, List.setIfInBounds_toArray, List.set_cons_zero, List.set_cons_succ, i64_w, i32_w]
               rfl
              refine pure_ (i := 26) (N := some 126) (v := ?_) (a' := ?_) #[true, true, true, true, true, true, true, true, true, true, true, true, true, true, true, true, true, true, true, true, true, true, true, true, true, false, true, false, false, false, false, false, false, false, false, false, false, false, false, false] rfl rfl (any_of HT_.out (by kernel_rfl)) (fun _ _ _ h => h) (Or.inl ⟨by rfl, ?_⟩) ?_ ?_
              rotate_left
              ·intro w'
               go_simp
               with_reducible rfl
              rotate_left
              ·simp only [Act.put, List.setIfInBounds_toArray, List.set_cons_zero, List.set_cons_succ, i64_w, i32_w]
               rfl
              refine pure_ (i := 31) (N := some 131) (v := ?_) (a' := ?_) #[true, true, true, true, true, true, true, true, true, true, true, true, true, true, true, true, true, true, true, true, true, true, true, true, true, false, true, false, false, false, false, true, false, false, false, false, false, false, false, false] rfl rfl (any_of HT_.out (by kernel_rfl)) (fun _ _ _ h => h) (Or.inl ⟨by rfl, ?_⟩) ?_ ?_
              rotate_left
              ·intro w'
               go_simp
               with_reducible rfl
              rotate_left
              ·simp only [Act.put, List.setIfInBounds_toArray, List.set_cons_zero, List.set_cons_succ, i64_w, i32_w]
               rfl
              refine take_ (i := 25) (N := some 125) (v := ?_) (a' := ?_) #[true, true, true, true, true, true, true, true, true, true, true, true, true, true, true, true, true, true, true, true, true, true, true, true, true, true, true, false, false, false, false, true, false, false, false, false, false, false, false, false] rfl rfl (take_ofW HT_.out HW_.out (by kernel_rfl)) (fun _ _ _ h => h) (Or.inl ⟨by rfl, ?_⟩) hHeld ?_ ?_
              rotate_left
              ·rintro w' ⟨s0, s1, s2, s3, s4, s5, s6, s7, s8, s9, s10, s11, s12, s13, s14, s15, s16, s17⟩
               go_simp
               with_reducible rfl
              rotate_left
              ·simp only [Act.put, List.setIfInBounds_toArray, List.set_cons_zero, List.set_cons_succ, i64_w, i32_w]
               rfl
              refine take_ (i := 27) (N := some 127) (v := ?_) (a' := ?_) #[true, true, true, true, true, true, true, true, true, true, true, true, true, true, true, true, true, true, true, true, true, true, true, true, true, true, true, true, false, false, false, true, false, false, false, false, false, false, false, false] rfl rfl (take_ofW HT_.out HW_.out (by kernel_rfl)) (fun _ _ _ h => h) (Or.inl ⟨by rfl, ?_⟩) hHeld ?_ ?_
              rotate_left
              ·rintro w' ⟨s0, s1, s2, s3, s4, s5, s6, s7, s8, s9, s10, s11, s12, s13, s14, s15, s16, s17⟩
               go_simp
               with_reducible rfl
              rotate_left
              ·simp only [Act.put, List.setIfInBounds_toArray, List.set_cons_zero, List.set_cons_succ, i64_w, i32_w]
               rfl
              refine pure_ (i := 28) (N := some 128) (v := ?_) (a' := ?_) #[true, true, true, true, true, true, true, true, true, true, true, true, true, true, true, true, true, true, true, true, true, true, true, true, true, true, true, true, true, false, false, true, false, false, false, false, false, false, false, false] rfl rfl (any_of HT_.out (by kernel_rfl)) (fun _ _ _ h => h) (Or.inl ⟨by rfl, ?_⟩) ?_ ?_
              rotate_left
              ·intro w'
               go_simp
               with_reducible rfl
              rotate_left
              ·simp only [Act.put, List.setIfInBounds_toArray, List.set_cons_zero, List.set_cons_succ, i64_w, i32_w]
               rfl
              refine pure_ (i := 29) (N := some 129) (v := ?_) (a' := ?_) #[true, true, true, true, true, true, true, true, true, true, true, true, true, true, true, true, true, true, true, true, true, true, true, true, true, true, true, true, true, true, false, true, false, false, false, false, false, false, false, false] rfl rfl (any_of HT_.out (by kernel_rfl)) (fun _ _ _ h => h) (Or.inl ⟨by rfl, ?_⟩) ?_ ?_
              rotate_left
              ·intro w'
               go_simp
               with_reducible rfl
              rotate_left
              ·simp only [Act.put, List.setIfInBounds_toArray, List.set_cons_zero, List.set_cons_succ, i64_w, i32_w]
               rfl
              refine take_ (i := 32) (N := some 132) (v := ?_) (a' := ?_) #[true, true, true, true, true, true, true, true, true, true, true, true, true, true, true, true, true, true, true, true, true, true, true, true, true, true, true, true, true, true, false, true, true, false, false, false, false, false, false, false] rfl rfl (take_ofW HT_.out HW_.out (by kernel_rfl)) (fun _ _ _ h => h) (Or.inl ⟨by rfl, ?_⟩) hHeld ?_ ?_
              rotate_left
              ·rintro w' ⟨s0, s1, s2, s3, s4, s5, s6, s7, s8, s9, s10, s11, s12, s13, s14, s15, s16, s17⟩
               go_simp
               with_reducible rfl
              rotate_left
              ·simp only [Act.put, List.setIfInBounds_toArray, List.set_cons_zero, List.set_cons_succ, i64_w, i32_w]
               rfl
              refine one_ (i := 30) (N := some 130) #[true, true, true, true, true, true, true, true, true, true, true, true, true, true, true, true, true, true, true, true, true, true, true, true, true, true, true, true, true, true, true, true, true, false, false, false, false, false, false, false] rfl rfl (one_of HT_.out (by kernel_rfl)) (by decide) (fun K hK => ?_)
              refine goes_ Try.func12 (by kernel_rfl) rfl #[.slice (some ad521) y522.length co121] (by rfl) rfl rfl (by (try simp only [List.map_toArray, List.map_cons, List.map_nil]); first | done | rfl | (simp only [List.length_drop, List.length_take]; rfl)) ?_
              with_reducible refine (haywainlaw22_As.calls kj26 _ _ y522 t526 _ ?side1 ?side2 A106.out).mono ?_
              (case side1 => repeat (first | exact (by repeat (first | (with_reducible exact HR525.out) | (with_reducible refine Kd.C_alloc ?_ _) | (with_reducible refine Kd.C_drewN ?_ _) | (with_reducible refine Kd.C_drew ?_) | exact HR525.out)) | (with_reducible refine Kd.C_alloc ?_ _) | (with_reducible refine Kd.C_drewN ?_ _) | (with_reducible refine Kd.C_drew ?_)))
              (case side2 => exact HC525.out)
              rintro e w129 ⟨v527, rfl, ho0, hb⟩
              have HS10_ := (hb.cell (World.block_lt_of_cell? _ _ (hHeld.2.2.2.2.2.2.2.2.2.2.1))).trans (hHeld.2.2.2.2.2.2.2.2.2.2.1)
              have HS11_ := (hb.cell (World.block_lt_of_cell? _ _ (hHeld.2.2.2.2.2.2.2.2.2.2.2.1))).trans (hHeld.2.2.2.2.2.2.2.2.2.2.2.1)
              have HS12_ := (hb.cell (World.block_lt_of_cell? _ _ (hHeld.2.2.2.2.2.2.2.2.2.2.2.2.1))).trans (hHeld.2.2.2.2.2.2.2.2.2.2.2.2.1)
              have HS13_ := (hb.cell (World.block_lt_of_cell? _ _ (hHeld.2.2.2.2.2.2.2.2.2.2.2.2.2.1))).trans (hHeld.2.2.2.2.2.2.2.2.2.2.2.2.2.1)
              have HS14_ := (hb.cell (World.block_lt_of_cell? _ _ (hHeld.2.2.2.2.2.2.2.2.2.2.2.2.2.2.1))).trans (hHeld.2.2.2.2.2.2.2.2.2.2.2.2.2.2.1)
              have HS15_ := (hb.cell (World.block_lt_of_cell? _ _ (hHeld.2.2.2.2.2.2.2.2.2.2.2.2.2.2.2.1))).trans (hHeld.2.2.2.2.2.2.2.2.2.2.2.2.2.2.2.1)
              have HS16_ := (hb.cell (World.block_lt_of_cell? _ _ (hHeld.2.2.2.2.2.2.2.2.2.2.2.2.2.2.2.2.1))).trans (hHeld.2.2.2.2.2.2.2.2.2.2.2.2.2.2.2.2.1)
              have HS17_ := (hb.cell (World.block_lt_of_cell? _ _ (hHeld.2.2.2.2.2.2.2.2.2.2.2.2.2.2.2.2.2))).trans (hHeld.2.2.2.2.2.2.2.2.2.2.2.2.2.2.2.2.2)
              refine ⟨_, rfl, ?_⟩
              have n0_ := Aside0.mk (Kd.R_below (by (with_reducible repeat (first | apply Kd.R_alloc | apply Kd.R_drewN | apply Kd.R_drew)); exact HO_483000.out) hb)
              have n1_ := Aside0.mk (Kd.R_below (by (with_reducible repeat (first | apply Kd.R_alloc | apply Kd.R_drewN | apply Kd.R_drew)); exact HO507.out) hb)
              have n2_ := Aside0.mk (Kd.R_below (by (with_reducible repeat (first | apply Kd.R_alloc | apply Kd.R_drewN | apply Kd.R_drew)); exact HO510.out) hb)
              have n3_ := Aside0.mk (Kd.R_lower ho0 (below_size (by repeat (first | (with_reducible first | exact HB.out | apply below_alloc | apply pw_below_drewN | apply below_drew1 | refine below_set ?_ GE470.out | refine below_set ?_ GE471.out | refine below_set ?_ GE482.out | refine below_set ?_ GE512.out) | exact HB.out))))
              have n4_ := Aside0.mk (blk_below (g := gb470) (o := .cells #[.slice A0_0 l0_0.length c0_0] 26 (0, 0)) (by (with_reducible repeat (first | refine blk_drewN ?_ _ | refine blk_drew ?_ | refine blk_alloc ?_ _)); exact BK470.out) hb)
              have n5_ := Aside0.mk (blk_below (g := gb471) (o := .cells #[.int .i64 a2_0, .int .i64 a2_1, .int .i64 a2_2, .int .i64 a2_3, .int .i64 a2_4, .int .i64 a2_5, .int .i64 a2_6, .string a2_7] 23 (0, 0)) (by (with_reducible repeat (first | refine blk_drewN ?_ _ | refine blk_drew ?_ | refine blk_alloc ?_ _)); exact BK471.out) hb)
              have n6_ := Aside0.mk (blk_below (g := gb482) (o := .cells #[.slice Ao32 t478.length co32] 26 (0, 0)) (by (with_reducible repeat (first | refine blk_drewN ?_ _ | refine blk_drew ?_ | refine blk_alloc ?_ _)); exact BK482.out) hb)
              have n7_ := Aside0.mk (blk_below (g := gb512) (o := .cells #[.slice (some ad521) t508.length co121] 26 (0, 0)) (by (with_reducible repeat (first | refine blk_drewN ?_ _ | refine blk_drew ?_ | refine blk_alloc ?_ _)); exact BK512.out) hb)
              have n8_ := Aside0.mk (Kd.C_below (by repeat (first | (with_reducible exact HR525.out) | (with_reducible refine Kd.C_alloc ?_ _) | (with_reducible refine Kd.C_drewN ?_ _) | (with_reducible refine Kd.C_drew ?_) | exact HR525.out)) hb)
              have n9_ := Aside0.mk (below_step (by repeat (first | (with_reducible first | exact HB.out | apply below_alloc | apply pw_below_drewN | apply below_drew1 | refine below_set ?_ GE470.out | refine below_set ?_ GE471.out | refine below_set ?_ GE482.out | refine below_set ?_ GE512.out) | exact HB.out)) hb)
              clear HO_483000
              clear HO507
              clear HO510
              clear BK470
              clear BK471
              clear BK482
              clear BK512
              clear HR525
              clear HB
              have HO_483000 := n0_
              have HO507 := n1_
              have HO510 := n2_
              have HO528 := n3_
              have BK470 := n4_
              have BK471 := n5_
              have BK482 := n6_
              have BK512 := n7_
              have HR525 := n8_
              have HB := n9_
              clear n0_ n1_ n2_ n3_ n4_ n5_ n6_ n7_ n8_ n9_
              (try clear hb)
              (try clear hb2)
              (try clear hk)
              (try clear hi)
              (try clear ho0)
              refine hK.out _ _ ⟨(blk_cell BK512.out 0).trans rfl, (blk_cell BK470.out 0).trans rfl, (blk_cell BK471.out 0).trans rfl, (blk_cell BK471.out 1).trans rfl, (blk_cell BK471.out 2).trans rfl, (blk_cell BK471.out 3).trans rfl, (blk_cell BK471.out 4).trans rfl, (blk_cell BK471.out 5).trans rfl, (blk_cell BK471.out 6).trans rfl, (blk_cell BK471.out 7).trans rfl, HS10_, HS11_, HS12_, HS13_, HS14_, HS15_, HS16_, HS17_⟩ (fun hHeld => ?_)
              clear hK K
              refine norm_ (a' := ?_) ?_ ?_
              rotate_left
              ·show Act.put _ (some 130) _ = _
               simp only [Act.put, List.setIfInBounds_toArray, List.set_cons_zero, List.set_cons_succ, i64_w, i32_w]
               rfl
              refine one_ (i := 33) (N := some 133) #[true, true, true, true, true, true, true, true, true, true, true, true, true, true, true, true, true, true, true, true, true, true, true, true, true, true, true, true, true, true, true, true, true, true, false, false, false, false, false, false] rfl rfl (one_of HT_.out (by kernel_rfl)) (by decide) (fun K hK => ?_)
              refine goes_ Try.func12 (by kernel_rfl) rfl #[.slice A0_0 l0_0.length c0_0] (by rfl) rfl rfl (by (try simp only [List.map_toArray, List.map_cons, List.map_nil]); first | done | rfl | (simp only [List.length_drop, List.length_take]; rfl)) ?_
              with_reducible refine (haywainlaw22_As.calls kj26 _ _ l0_0 t529 _ ?side1 ?side2 A107.out).mono ?_
              (case side1 => repeat (first | exact (Kd.C_below HR0_0.out HB.out) | (with_reducible refine Kd.C_alloc ?_ _) | (with_reducible refine Kd.C_drewN ?_ _) | (with_reducible refine Kd.C_drew ?_)))
              (case side2 => exact HC0_0.out)
              rintro e w130 ⟨v530, rfl, ho0, hb⟩
              have HS10_ := (hb.cell (World.block_lt_of_cell? _ _ (hHeld.2.2.2.2.2.2.2.2.2.2.1))).trans (hHeld.2.2.2.2.2.2.2.2.2.2.1)
              have HS11_ := (hb.cell (World.block_lt_of_cell? _ _ (hHeld.2.2.2.2.2.2.2.2.2.2.2.1))).trans (hHeld.2.2.2.2.2.2.2.2.2.2.2.1)
              have HS12_ := (hb.cell (World.block_lt_of_cell? _ _ (hHeld.2.2.2.2.2.2.2.2.2.2.2.2.1))).trans (hHeld.2.2.2.2.2.2.2.2.2.2.2.2.1)
              have HS13_ := (hb.cell (World.block_lt_of_cell? _ _ (hHeld.2.2.2.2.2.2.2.2.2.2.2.2.2.1))).trans (hHeld.2.2.2.2.2.2.2.2.2.2.2.2.2.1)
              have HS14_ := (hb.cell (World.block_lt_of_cell? _ _ (hHeld.2.2.2.2.2.2.2.2.2.2.2.2.2.2.1))).trans (hHeld.2.2.2.2.2.2.2.2.2.2.2.2.2.2.1)
              have HS15_ := (hb.cell (World.block_lt_of_cell? _ _ (hHeld.2.2.2.2.2.2.2.2.2.2.2.2.2.2.2.1))).trans (hHeld.2.2.2.2.2.2.2.2.2.2.2.2.2.2.2.1)
              have HS16_ := (hb.cell (World.block_lt_of_cell? _ _ (hHeld.2.2.2.2.2.2.2.2.2.2.2.2.2.2.2.2.1))).trans (hHeld.2.2.2.2.2.2.2.2.2.2.2.2.2.2.2.2.1)
              have HS17_ := (hb.cell (World.block_lt_of_cell? _ _ (hHeld.2.2.2.2.2.2.2.2.2.2.2.2.2.2.2.2.2))).trans (hHeld.2.2.2.2.2.2.2.2.2.2.2.2.2.2.2.2.2)
              refine ⟨_, rfl, ?_⟩
              have n0_ := Aside0.mk (Kd.R_below (by (with_reducible repeat (first | apply Kd.R_alloc | apply Kd.R_drewN | apply Kd.R_drew)); exact HO_483000.out) hb)
              have n1_ := Aside0.mk (Kd.R_below (by (with_reducible repeat (first | apply Kd.R_alloc | apply Kd.R_drewN | apply Kd.R_drew)); exact HO507.out) hb)
              have n2_ := Aside0.mk (Kd.R_below (by (with_reducible repeat (first | apply Kd.R_alloc | apply Kd.R_drewN | apply Kd.R_drew)); exact HO510.out) hb)
              have n3_ := Aside0.mk (Kd.R_elder' (by (with_reducible repeat (first | apply Kd.R_alloc | apply Kd.R_drewN | apply Kd.R_drew)); exact HO528.out) (Kd.R_base ho0) hb)
              have n4_ := Aside0.mk (Kd.R_lower (Kd.R_new' ho0 (Kd.R_lt (by (with_reducible repeat (first | apply Kd.R_alloc | apply Kd.R_drewN | apply Kd.R_drew)); exact HO528.out))) (below_size (by repeat (first | (with_reducible first | exact HB.out | apply below_alloc | apply pw_below_drewN | apply below_drew1 | refine below_set ?_ GE470.out | refine below_set ?_ GE471.out | refine below_set ?_ GE482.out | refine below_set ?_ GE512.out) | exact HB.out))))
              have n5_ := Aside0.mk (blk_below (g := gb470) (o := .cells #[.slice A0_0 l0_0.length c0_0] 26 (0, 0)) (by (with_reducible repeat (first | refine blk_drewN ?_ _ | refine blk_drew ?_ | refine blk_alloc ?_ _)); exact BK470.out) hb)
              have n6_ := Aside0.mk (blk_below (g := gb471) (o := .cells #[.int .i64 a2_0, .int .i64 a2_1, .int .i64 a2_2, .int .i64 a2_3, .int .i64 a2_4, .int .i64 a2_5, .int .i64 a2_6, .string a2_7] 23 (0, 0)) (by (with_reducible repeat (first | refine blk_drewN ?_ _ | refine blk_drew ?_ | refine blk_alloc ?_ _)); exact BK471.out) hb)
              have n7_ := Aside0.mk (blk_below (g := gb482) (o := .cells #[.slice Ao32 t478.length co32] 26 (0, 0)) (by (with_reducible repeat (first | refine blk_drewN ?_ _ | refine blk_drew ?_ | refine blk_alloc ?_ _)); exact BK482.out) hb)
              have n8_ := Aside0.mk (blk_below (g := gb512) (o := .cells #[.slice (some ad521) t508.length co121] 26 (0, 0)) (by (with_reducible repeat (first | refine blk_drewN ?_ _ | refine blk_drew ?_ | refine blk_alloc ?_ _)); exact BK512.out) hb)
              have n9_ := Aside0.mk (Kd.C_below (by repeat (first | (with_reducible exact HR525.out) | (with_reducible refine Kd.C_alloc ?_ _) | (with_reducible refine Kd.C_drewN ?_ _) | (with_reducible refine Kd.C_drew ?_) | exact HR525.out)) hb)
              have n10_ := Aside0.mk (below_step (by repeat (first | (with_reducible first | exact HB.out | apply below_alloc | apply pw_below_drewN | apply below_drew1 | refine below_set ?_ GE470.out | refine below_set ?_ GE471.out | refine below_set ?_ GE482.out | refine below_set ?_ GE512.out) | exact HB.out)) hb)
              clear HO_483000
              clear HO507
              clear HO510
              clear HO528
              clear BK470
              clear BK471
              clear BK482
              clear BK512
              clear HR525
              clear HB
              have HO_483000 := n0_
              have HO507 := n1_
              have HO510 := n2_
              have HO528 := n3_
              have HO531 := n4_
              have BK470 := n5_
              have BK471 := n6_
              have BK482 := n7_
              have BK512 := n8_
              have HR525 := n9_
              have HB := n10_
              clear n0_ n1_ n2_ n3_ n4_ n5_ n6_ n7_ n8_ n9_ n10_
              (try clear hb)
              (try clear hb2)
              (try clear hk)
              (try clear hi)
              (try clear ho0)
              obtain ⟨Ao131, co131, eo131⟩ := Kd.R_slice HO528.out
              (first | subst eo131 | (injection eo131 with f1_ f2_ f3_; have f4_ := f1_.symm; have f5_ := f3_.symm; clear f1_ f2_ f3_; subst f4_; subst f5_))
              obtain ⟨Ao132, co132, eo132⟩ := Kd.R_slice HO531.out
              (first | subst eo132 | (injection eo132 with f1_ f2_ f3_; have f4_ := f1_.symm; have f5_ := f3_.symm; clear f1_ f2_ f3_; subst f4_; subst f5_))
              refine hK.out _ _ ⟨(blk_cell BK512.out 0).trans rfl, (blk_cell BK470.out 0).trans rfl, (blk_cell BK471.out 0).trans rfl, (blk_cell BK471.out 1).trans rfl, (blk_cell BK471.out 2).trans rfl, (blk_cell BK471.out 3).trans rfl, (blk_cell BK471.out 4).trans rfl, (blk_cell BK471.out 5).trans rfl, (blk_cell BK471.out 6).trans rfl, (blk_cell BK471.out 7).trans rfl, HS10_, HS11_, HS12_, HS13_, HS14_, HS15_, HS16_, HS17_⟩ (fun hHeld => ?_)
              clear hK K
              refine norm_ (a' := ?_) ?_ ?_
              rotate_left
              ·show Act.put _ (some 133) _ = _
               simp only [Act.put, List.setIfInBounds_toArray, List.set_cons_zero, List.set_cons_succ, i64_w, i32_w]
               rfl
              refine one_ (i := 34) (N := some 134) #[true, true, true, true, true, true, true, true, true, true, true, true, true, true, true, true, true, true, true, true, true, true, true, true, true, true, true, true, true, true, true, true, true, true, true, false, false, false, false, false] rfl rfl (one_of HT_.out (by kernel_rfl)) (by decide) (fun K hK => ?_)
              refine goes_ Try.func19 (by kernel_rfl) rfl #[.slice Ao131 t526.length co131, .slice Ao132 t529.length co132] (by rfl) rfl rfl (by (try simp only [List.map_toArray, List.map_cons, List.map_nil]); first | done | rfl | (simp only [List.length_drop, List.length_take]; rfl)) ?_
              with_reducible refine (haywainref22_Same.calls kj26 _ _ t526 _ _ t529 true _ ?side1 ?side2 ?side3 ?side4 A108.out).mono ?_
              (case side1 => repeat (first | exact (Kd.R_reads' HO528.out).2.2 | (with_reducible refine Kd.C_alloc ?_ _) | (with_reducible refine Kd.C_drewN ?_ _) | (with_reducible refine Kd.C_drew ?_)))
              (case side2 => exact (Kd.R_reads' HO528.out).2.1)
              (case side3 => repeat (first | exact (Kd.R_reads' HO531.out).2.2 | (with_reducible refine Kd.C_alloc ?_ _) | (with_reducible refine Kd.C_drewN ?_ _) | (with_reducible refine Kd.C_drew ?_)))
              (case side4 => exact (Kd.R_reads' HO531.out).2.1)
              rintro e w' ⟨rfl, ⟨nd, rfl⟩⟩
              refine ⟨_, rfl, ?_⟩
              refine hK.out _ _ ⟨(blk_cell BK512.out 0).trans rfl, (blk_cell BK470.out 0).trans rfl, (blk_cell BK471.out 0).trans rfl, (blk_cell BK471.out 1).trans rfl, (blk_cell BK471.out 2).trans rfl, (blk_cell BK471.out 3).trans rfl, (blk_cell BK471.out 4).trans rfl, (blk_cell BK471.out 5).trans rfl, (blk_cell BK471.out 6).trans rfl, (blk_cell BK471.out 7).trans rfl, hHeld.2.2.2.2.2.2.2.2.2.2.1, hHeld.2.2.2.2.2.2.2.2.2.2.2.1, hHeld.2.2.2.2.2.2.2.2.2.2.2.2.1, hHeld.2.2.2.2.2.2.2.2.2.2.2.2.2.1, hHeld.2.2.2.2.2.2.2.2.2.2.2.2.2.2.1, hHeld.2.2.2.2.2.2.2.2.2.2.2.2.2.2.2.1, hHeld.2.2.2.2.2.2.2.2.2.2.2.2.2.2.2.2.1, hHeld.2.2.2.2.2.2.2.2.2.2.2.2.2.2.2.2.2⟩ (fun hHeld => ?_)
              clear hK K
              refine norm_ (a' := ?_) ?_ ?_
              rotate_left
              ·show Act.put _ (some 134) _ = _
               simp only [Act.put, List.setIfInBounds_toArray, List.set_cons_zero, List.set_cons_succ, i64_w, i32_w]
               rfl
              refine pure_ (i := 35) (N := some 135) (v := ?_) (a' := ?_) #[true, true, true, true, true, true, true, true, true, true, true, true, true, true, true, true, true, true, true, true, true, true, true, true, true, true, true, true, true, true, true, true, true, true, true, true, false, false, false, false] rfl rfl (any_of HT_.out (by kernel_rfl)) (fun _ _ _ h => h) (Or.inl ⟨by rfl, ?_⟩) ?_ ?_
              rotate_left
              ·intro w'
               go_simp
               with_reducible rfl
              rotate_left
              ·simp only [Act.put, List.setIfInBounds_toArray, List.set_cons_zero, List.set_cons_succ, i64_w, i32_w]
               rfl
              refine pure_ (i := 36) (N := some 136) (v := ?_) (a' := ?_) #[true, true, true, true, true, true, true, true, true, true, true, true, true, true, true, true, true, true, true, true, true, true, true, true, true, true, true, true, true, true, true, true, true, true, true, true, true, false, false, false] rfl rfl (any_of HT_.out (by kernel_rfl)) (fun _ _ _ h => h) (Or.inl ⟨by rfl, ?_⟩) ?_ ?_
              rotate_left
              ·intro w'
               go_simp
               with_reducible rfl
              rotate_left
              ·simp only [Act.put, List.setIfInBounds_toArray, List.set_cons_zero, List.set_cons_succ, i64_w, i32_w]
               rfl
              refine one_ (i := 37) (N := some 137) #[true, true, true, true, true, true, true, true, true, true, true, true, true, true, true, true, true, true, true, true, true, true, true, true, true, true, true, true, true, true, true, true, true, true, true, true, true, true, false, false] rfl rfl (one_of HT_.out (by kernel_rfl)) (by decide) (fun K hK => ?_)
              refine goes_ Try.func9 (by kernel_rfl) rfl #[] (by rfl) rfl rfl (by (try simp only [List.map_toArray, List.map_cons, List.map_nil]); first | done | rfl | (simp only [List.length_drop, List.length_take]; rfl)) ?_
              with_reducible refine (haywainlaw22_knows.calls kj26  t533 _ A110.out).mono ?_
              rintro e w133 ⟨rfl, hb⟩
              have HS10_ := (hb.cell (World.block_lt_of_cell? _ _ (hHeld.2.2.2.2.2.2.2.2.2.2.1))).trans (hHeld.2.2.2.2.2.2.2.2.2.2.1)
              have HS11_ := (hb.cell (World.block_lt_of_cell? _ _ (hHeld.2.2.2.2.2.2.2.2.2.2.2.1))).trans (hHeld.2.2.2.2.2.2.2.2.2.2.2.1)
              have HS12_ := (hb.cell (World.block_lt_of_cell? _ _ (hHeld.2.2.2.2.2.2.2.2.2.2.2.2.1))).trans (hHeld.2.2.2.2.2.2.2.2.2.2.2.2.1)
              have HS13_ := (hb.cell (World.block_lt_of_cell? _ _ (hHeld.2.2.2.2.2.2.2.2.2.2.2.2.2.1))).trans (hHeld.2.2.2.2.2.2.2.2.2.2.2.2.2.1)
              have HS14_ := (hb.cell (World.block_lt_of_cell? _ _ (hHeld.2.2.2.2.2.2.2.2.2.2.2.2.2.2.1))).trans (hHeld.2.2.2.2.2.2.2.2.2.2.2.2.2.2.1)
              have HS15_ := (hb.cell (World.block_lt_of_cell? _ _ (hHeld.2.2.2.2.2.2.2.2.2.2.2.2.2.2.2.1))).trans (hHeld.2.2.2.2.2.2.2.2.2.2.2.2.2.2.2.1)
              have HS16_ := (hb.cell (World.block_lt_of_cell? _ _ (hHeld.2.2.2.2.2.2.2.2.2.2.2.2.2.2.2.2.1))).trans (hHeld.2.2.2.2.2.2.2.2.2.2.2.2.2.2.2.2.1)
              have HS17_ := (hb.cell (World.block_lt_of_cell? _ _ (hHeld.2.2.2.2.2.2.2.2.2.2.2.2.2.2.2.2.2))).trans (hHeld.2.2.2.2.2.2.2.2.2.2.2.2.2.2.2.2.2)
              refine ⟨_, rfl, ?_⟩
              have n0_ := Aside0.mk (Kd.R_below (by (with_reducible repeat (first | apply Kd.R_alloc | apply Kd.R_drewN | apply Kd.R_drew)); exact HO_483000.out) hb)
              have n1_ := Aside0.mk (Kd.R_below (by (with_reducible repeat (first | apply Kd.R_alloc | apply Kd.R_drewN | apply Kd.R_drew)); exact HO507.out) hb)
              have n2_ := Aside0.mk (Kd.R_below (by (with_reducible repeat (first | apply Kd.R_alloc | apply Kd.R_drewN | apply Kd.R_drew)); exact HO510.out) hb)
              have n3_ := Aside0.mk (Kd.R_below (by (with_reducible repeat (first | apply Kd.R_alloc | apply Kd.R_drewN | apply Kd.R_drew)); exact HO528.out) hb)
              have n4_ := Aside0.mk (Kd.R_below (by (with_reducible repeat (first | apply Kd.R_alloc | apply Kd.R_drewN | apply Kd.R_drew)); exact HO531.out) hb)
              have n5_ := Aside0.mk (blk_below (g := gb470) (o := .cells #[.slice A0_0 l0_0.length c0_0] 26 (0, 0)) (by (with_reducible repeat (first | refine blk_drewN ?_ _ | refine blk_drew ?_ | refine blk_alloc ?_ _)); exact BK470.out) hb)
              have n6_ := Aside0.mk (blk_below (g := gb471) (o := .cells #[.int .i64 a2_0, .int .i64 a2_1, .int .i64 a2_2, .int .i64 a2_3, .int .i64 a2_4, .int .i64 a2_5, .int .i64 a2_6, .string a2_7] 23 (0, 0)) (by (with_reducible repeat (first | refine blk_drewN ?_ _ | refine blk_drew ?_ | refine blk_alloc ?_ _)); exact BK471.out) hb)
              have n7_ := Aside0.mk (blk_below (g := gb482) (o := .cells #[.slice Ao32 t478.length co32] 26 (0, 0)) (by (with_reducible repeat (first | refine blk_drewN ?_ _ | refine blk_drew ?_ | refine blk_alloc ?_ _)); exact BK482.out) hb)
              have n8_ := Aside0.mk (blk_below (g := gb512) (o := .cells #[.slice (some ad521) t508.length co121] 26 (0, 0)) (by (with_reducible repeat (first | refine blk_drewN ?_ _ | refine blk_drew ?_ | refine blk_alloc ?_ _)); exact BK512.out) hb)
              have n9_ := Aside0.mk (Kd.C_below (by repeat (first | (with_reducible exact HR525.out) | (with_reducible refine Kd.C_alloc ?_ _) | (with_reducible refine Kd.C_drewN ?_ _) | (with_reducible refine Kd.C_drew ?_) | exact HR525.out)) hb)
              have n10_ := Aside0.mk (below_step (by repeat (first | (with_reducible first | exact HB.out | apply below_alloc | apply pw_below_drewN | apply below_drew1 | refine below_set ?_ GE470.out | refine below_set ?_ GE471.out | refine below_set ?_ GE482.out | refine below_set ?_ GE512.out) | exact HB.out)) hb)
              clear HO_483000
              clear HO507
              clear HO510
              clear HO528
              clear HO531
              clear BK470
              clear BK471
              clear BK482
              clear BK512
              clear HR525
              clear HB
              have HO_483000 := n0_
              have HO507 := n1_
              have HO510 := n2_
              have HO528 := n3_
              have HO531 := n4_
              have BK470 := n5_
              have BK471 := n6_
              have BK482 := n7_
              have BK512 := n8_
              have HR525 := n9_
              have HB := n10_
              clear n0_ n1_ n2_ n3_ n4_ n5_ n6_ n7_ n8_ n9_ n10_
              (try clear hb)
              (try clear hb2)
              (try clear hk)
              (try clear hi)
              refine hK.out _ _ ⟨(blk_cell BK512.out 0).trans rfl, (blk_cell BK470.out 0).trans rfl, (blk_cell BK471.out 0).trans rfl, (blk_cell BK471.out 1).trans rfl, (blk_cell BK471.out 2).trans rfl, (blk_cell BK471.out 3).trans rfl, (blk_cell BK471.out 4).trans rfl, (blk_cell BK471.out 5).trans rfl, (blk_cell BK471.out 6).trans rfl, (blk_cell BK471.out 7).trans rfl, HS10_, HS11_, HS12_, HS13_, HS14_, HS15_, HS16_, HS17_⟩ (fun hHeld => ?_)
              clear hK K
              refine norm_ (a' := ?_) ?_ ?_
              rotate_left
              ·show Act.put _ (some 137) _ = _
               simp only [Act.put, List.setIfInBounds_toArray, List.set_cons_zero, List.set_cons_succ, i64_w, i32_w]
               rfl
              refine pure_ (i := 38) (N := some 138) (v := ?_) (a' := ?_) #[true, true, true, true, true, true, true, true, true, true, true, true, true, true, true, true, true, true, true, true, true, true, true, true, true, true, true, true, true, true, true, true, true, true, true, true, true, true, true, false] rfl rfl (any_of HT_.out (by kernel_rfl)) (fun _ _ _ h => h) (Or.inl ⟨by rfl, ?_⟩) ?_ ?_
              rotate_left
              ·intro w'
               go_simp
               with_reducible rfl
              rotate_left
              ·simp only [Act.put, List.setIfInBounds_toArray, List.set_cons_zero, List.set_cons_succ, i64_w, i32_w]
               rfl
              refine pure_ (i := 39) (N := some 6) (v := ?_) (a' := ?_) #[true, true, true, true, true, true, true, true, true, true, true, true, true, true, true, true, true, true, true, true, true, true, true, true, true, true, true, true, true, true, true, true, true, true, true, true, true, true, true, true] rfl rfl (any_of HT_.out (by kernel_rfl)) (fun _ _ _ h => h) (Or.inl ⟨by rfl, ?_⟩) ?_ ?_
              rotate_left
              ·intro w'
               go_simp
               with_reducible rfl
              rotate_left
              ·simp only [Act.put, List.setIfInBounds_toArray, List.set_cons_zero, List.set_cons_succ, i64_w, i32_w]
               rfl
              refine done_ (done_of HT_.out (by kernel_rfl)) ?_
              try go_wp2
              go_ret
              exact ⟨by first | rfl | (simp [errW_none, errW_some] <;> rfl) | (simp [*, errW_none, errW_some] <;> rfl), by repeat (first | (with_reducible first | exact HB.out | apply below_alloc | apply pw_below_drewN | apply below_drew1 | refine below_set ?_ GE470.out | refine below_set ?_ GE471.out | refine below_set ?_ GE482.out | refine below_set ?_ GE512.out) | exact HB.out)⟩
             ·replace c109 := Bool.eq_false_iff.mpr c109
              subst c109
              have H1 : (none) = some r := by rw [if_neg (show ¬ (false = true) by decide)] at H; exact H
              clear H
              have H := H1
              clear H1
              exact absurd H (by simp)
            ·rw [if_neg c105] at H
             exact absurd H (by simp)
           ·rw [if_neg c103] at H
            exact absurd H (by simp)
          ·rw [if_neg c102] at H
           exact absurd H (by simp)
         ·rw [if_neg c101] at H
          exact absurd H (by simp)
        ·rw [if_neg c100] at H
         exact absurd H (by simp)
       ·rw [if_neg c99] at H
        exact absurd H (by simp)

def okT23_NetAgain (x : S23) : Prop := ((Lit.int .i64 x.f0).wf = true) ∧ ((Lit.int .i64 x.f1).wf = true) ∧ ((Lit.int .i64 x.f2).wf = true) ∧ ((Lit.int .i64 x.f3).wf = true) ∧ ((Lit.int .i64 x.f4).wf = true) ∧ ((Lit.int .i64 x.f5).wf = true) ∧ ((Lit.int .i64 x.f6).wf = true) ∧ (x.f7.size ≤ 140737488351232)
def okT26_NetAgain (x : S26) : Prop := ((x.f0.length ≤ maxLen ∧ x.f0.length * 72 ≤ 140737488351232 ∧ ∀ a ∈ x.f0, okT23_NetAgain a))
/-- THE ONE PURE STATEMENT of haywainlaw22_NetAgain: yours. -/
def haywainlaw22_NetAgain.Pure : Prop := ∀ (l0_0 : List (S23)) (a1 : Int) (a2_0 : Int) (a2_1 : Int) (a2_2 : Int) (a2_3 : Int) (a2_4 : Int) (a2_5 : Int) (a2_6 : Int) (a2_7 : ByteArray), (l0_0.length ≤ maxLen ∧ l0_0.length * 72 ≤ 140737488351232 ∧ ∀ a ∈ l0_0, okT23_NetAgain a) → (Lit.int .i64 a1).wf = true → (Lit.int .i64 a2_0).wf = true → (Lit.int .i64 a2_1).wf = true → (Lit.int .i64 a2_2).wf = true → (Lit.int .i64 a2_3).wf = true → (Lit.int .i64 a2_4).wf = true → (Lit.int .i64 a2_5).wf = true → (Lit.int .i64 a2_6).wf = true → a2_7.size ≤ 140737488351232 → ∃ k, haywainlaw22_NetAgain.f k l0_0 a1 a2_0 a2_1 a2_2 a2_3 a2_4 a2_5 a2_6 a2_7 = some true

end Go.Proofs.Ytodjglekfamaaaa.PNet
