-- Printed for this claim by a turned copy of the print (wip/tools/patch.py); a text of this session, not of print.sh.
import Derived.Test.YtodjglekfamaaaaPNetx0
import Derived.Test.YtodjglekfamaaaaPNetx3
import Derived.Test.YtodjglekfamaaaaPNetx5
import Derived.Test.YtodjglekfamaaaaPNetx6
import Derived.Test.YtodjglekfamaaaaXRow
namespace Go.Proofs.Ytodjglekfamaaaa.PNet
open Go.RowKit Go.Proofs.YtodjglekfamaaaaW.PrintWords Go.Proofs.YtodjglekfamaaaaW.PrintLast Go.Proofs.YtodjglekfamaaaaW.PrintMore
attribute [local go_sem] max2_int min2_int max_two min_two max_three min_three max_four min_four   -- for this text's walks alone
set_option linter.unusedVariables false
set_option linter.unusedSimpArgs false

/-! ### haywainlaw22_NetRights: function 3 -/
def haywainlaw22_NetRights.j0 : Nat → Bool → Int → Int → Int → Int → Int → Int → Int → ByteArray → List (S23) → Option (Bool)
 | 0, _, _, _, _, _, _, _, _, _, _ => none
 | k + 1, x13, x267000, x267001, x267002, x267003, x267004, x267005, x267006, x267007, x268000 => if x13 = true then ((haywainlaw22_knows.f k).bind fun t269 => (some t269)) else ((net_Fair.f x267000 x267001 x267002 x267003 x267004 x267005 x267006 x267007).bind fun t270 => ((haywainlaw22_As.f k (([(⟨x267000, x267001, x267002, x267003, x267004, x267005, x267006, x267007⟩ : S23)] : List (S23)))).bind fun t274 => (if 0 < (t274.length : Int) then ((haywainref22_Fair.f k ((rd_T31 t274 0).f0) ((rd_T31 t274 0).f1) ((rd_T31 t274 0).f2) ((rd_T31 t274 0).f3) ((rd_T31 t274 0).f4) ((rd_T31 t274 0).f5) ((rd_T31 t274 0).f6) ((rd_T31 t274 0).f7)).bind fun t278 => (if (t270 == t278) = true then ((net_Right.f k x268000).bind fun t279 => ((haywainlaw22_As.f k x268000).bind fun t280 => ((haywainref22_Right.f k t280).bind fun t283 => (if (t279 == t283) = true then ((haywainlaw22_knows.f k).bind fun t284 => (some t284)) else (none))))) else (none))) else (none))))
def haywainlaw22_NetRights.f (k : Nat) (a0_0 : Int) (a0_1 : Int) (a0_2 : Int) (a0_3 : Int) (a0_4 : Int) (a0_5 : Int) (a0_6 : Int) (a0_7 : ByteArray) (l1_0 : List (S23)) : Option (Bool) := (haywainlaw22_great.f k l1_0).bind fun t268 => (if t268 = true then (haywainlaw22_NetRights.j0 k true a0_0 a0_1 a0_2 a0_3 a0_4 a0_5 a0_6 a0_7 l1_0) else (haywainlaw22_NetRights.j0 k (decide ((a0_7.size : Int) > 10000)) a0_0 a0_1 a0_2 a0_3 a0_4 a0_5 a0_6 a0_7 l1_0))
theorem haywainlaw22_NetRights.mono_l : ∀ k, (∀ y0 y1 y2 y3 y4 y5 y6 y7 y8 y9, LeO (haywainlaw22_NetRights.j0 k y0 y1 y2 y3 y4 y5 y6 y7 y8 y9) (haywainlaw22_NetRights.j0 (k + 1) y0 y1 y2 y3 y4 y5 y6 y7 y8 y9))
 | 0 => fun _ _ _ _ _ _ _ _ _ _ r h => by simp [haywainlaw22_NetRights.j0] at h
 | k + 1 => by
  have ih0 := haywainlaw22_NetRights.mono_l k
  ·intro y0 y1 y2 y3 y4 y5 y6 y7 y8 y9
   unfold haywainlaw22_NetRights.j0
   repeat' first
   | (with_reducible exact ih0 _ _ _ _ _ _ _ _ _ _)
   | (with_reducible exact haywainlaw22_As.mono _ _)
   | (with_reducible exact haywainlaw22_great.mono _ _)
   | (with_reducible exact haywainlaw22_knows.mono _)
   | (with_reducible exact haywainref22_Fair.mono _ _ _ _ _ _ _ _ _)
   | (with_reducible exact haywainref22_Right.mono _ _)
   | (with_reducible exact net_Right.mono _ _)
   | (with_reducible exact LeO.refl _)
   | (with_reducible exact LeO.none _)
   | (with_reducible refine LeO.ite ?_ ?_)
   | (with_reducible refine LeO.bind ?_ (fun _ => ?_))
   | exact ih0 _ _ _ _ _ _ _ _ _ _
   | exact haywainlaw22_As.mono _ _
   | exact haywainlaw22_great.mono _ _
   | exact haywainlaw22_knows.mono _
   | exact haywainref22_Fair.mono _ _ _ _ _ _ _ _ _
   | exact haywainref22_Right.mono _ _
   | exact net_Right.mono _ _
   | exact LeO.none _
   | refine LeO.ite ?_ ?_
   | refine LeO.bind ?_ (fun _ => ?_)
theorem haywainlaw22_NetRights.mono : ∀ a0 a1 a2 a3 a4 a5 a6 a7 a8 k, LeO (haywainlaw22_NetRights.f k a0 a1 a2 a3 a4 a5 a6 a7 a8) (haywainlaw22_NetRights.f (k + 1) a0 a1 a2 a3 a4 a5 a6 a7 a8) := by
 intro a0 a1 a2 a3 a4 a5 a6 a7 a8 k
 have ih0 := haywainlaw22_NetRights.mono_l k
 unfold haywainlaw22_NetRights.f
 repeat' first
   | (with_reducible exact ih0 _ _ _ _ _ _ _ _ _ _)
   | (with_reducible exact haywainlaw22_As.mono _ _)
   | (with_reducible exact haywainlaw22_great.mono _ _)
   | (with_reducible exact haywainlaw22_knows.mono _)
   | (with_reducible exact haywainref22_Fair.mono _ _ _ _ _ _ _ _ _)
   | (with_reducible exact haywainref22_Right.mono _ _)
   | (with_reducible exact net_Right.mono _ _)
   | (with_reducible exact LeO.refl _)
   | (with_reducible exact LeO.none _)
   | (with_reducible refine LeO.ite ?_ ?_)
   | (with_reducible refine LeO.bind ?_ (fun _ => ?_))
   | exact ih0 _ _ _ _ _ _ _ _ _ _
   | exact haywainlaw22_As.mono _ _
   | exact haywainlaw22_great.mono _ _
   | exact haywainlaw22_knows.mono _
   | exact haywainref22_Fair.mono _ _ _ _ _ _ _ _ _
   | exact haywainref22_Right.mono _ _
   | exact net_Right.mono _ _
   | exact LeO.none _
   | refine LeO.ite ?_ ?_
   | refine LeO.bind ?_ (fun _ => ?_)
def haywainlaw22_NetRights.T3 : Bool × List (List Nat × List Nat) := (true, [([], []), ([0], [0]), ([], []), ([2], [2]), ([3, 1], [3]), ([4], [4]), ([5], [5]), ([6, 4], [6]), ([1, 7], [1, 7]), ([8, 7], [8]), ([9], [9]), ([10, 9, 9], [9, 10]), ([9], [9]), ([12, 9], [9, 12]), ([13, 11, 9], [9, 13]), ([14, 14, 9], [9, 14]), ([11, 15, 9], [9, 11, 15]), ([9, 16], [9, 16]), ([17, 15], [17]), ([18, 18], [18]), ([18, 19], [18, 19]), ([20, 19, 0, 1, 2, 3, 4, 5, 6, 7, 8, 9, 10, 11, 12, 13, 14, 15, 16, 17, 18, 19, 20], [20])])
def haywainlaw22_NetRights.B3 : List Nat := [0, 1, 0, 4, 15, 31, 63, 127, 255, 511, 1023, 2047, 1023, 5119, 16383, 32767, 65535, 131071, 262143, 524287, 1048575, 2097151]
theorem haywainlaw22_NetRights.tab3 : rtab .any (opsOf Try.f3 3) = haywainlaw22_NetRights.T3 := by kernel_rfl
theorem haywainlaw22_NetRights.bits3 : waitsOk haywainlaw22_NetRights.T3.2 haywainlaw22_NetRights.B3 = true := by kernel_rfl
set_option maxHeartbeats 8000000 in
set_option maxRecDepth 100000 in
theorem haywainlaw22_NetRights.calls (k : Nat) (a0_0 : Int) (a0_1 : Int) (a0_2 : Int) (a0_3 : Int) (a0_4 : Int) (a0_5 : Int) (a0_6 : Int) (a0_7 : ByteArray) (A1_0 : Option Addr) (c1_0 : Nat) (l1_0 : List (S23)) (r : Bool) (w : World) (hr1_0 : Kd.C k23 w A1_0 l1_0.length l1_0) (hc1_0 : l1_0.length ≤ c1_0) (h : haywainlaw22_NetRights.f k a0_0 a0_1 a0_2 a0_3 a0_4 a0_5 a0_6 a0_7 l1_0 = some r) :
  Calls Try.prog 3 #[.agg #[.int .i64 a0_0, .int .i64 a0_1, .int .i64 a0_2, .int .i64 a0_3, .int .i64 a0_4, .int .i64 a0_5, .int .i64 a0_6, .string a0_7], .agg #[.slice A1_0 l1_0.length c1_0]] w fun e w' => e = .returned (.bool r) ∧ Below w.heap.size w w' := by
 have hu23 := Try.underlying23
 have hu26 := Try.underlying26
 have hu31 := Try.underlying31
 have HR1_0 := Aside0.mk hr1_0
 have HC1_0 := Aside0.mk hc1_0
 clear hr1_0 hc1_0
 have HB := Aside0.mk (Below.refl w.heap.size w)
 have H : ((haywainlaw22_great.f k l1_0).bind fun t268 => (if t268 = true then (haywainlaw22_NetRights.j0 k true a0_0 a0_1 a0_2 a0_3 a0_4 a0_5 a0_6 a0_7 l1_0) else (haywainlaw22_NetRights.j0 k (decide ((a0_7.size : Int) > 10000)) a0_0 a0_1 a0_2 a0_3 a0_4 a0_5 a0_6 a0_7 l1_0))) = some r := h
 clear h
 have HC3 := Aside0.mk H
 clear H
 go_enter Try.func3, Try.ntmps3
 go_upto_region 1 with (first | ((with_reducible refine gate_dst (N := 2) rfl ?_); (try (refine gate_guard (by rfl) ?_; dsimp only)); refine box_event ?hg (N := 2) ?hd (cs := #[.int .i64 a0_0, .int .i64 a0_1, .int .i64 a0_2, .int .i64 a0_3, .int .i64 a0_4, .int .i64 a0_5, .int .i64 a0_6, .string a0_7]) (t := 23) ?hr ?_; (case hd => rfl); (case hg => rfl); (case hr => first | (go_simp; done) | (go_simp; rfl)); intro gb266 hg w4 hbox hb; have n0_ := Aside0.mk (below_step (by repeat (first | (with_reducible first | exact HB.out | apply below_alloc | apply pw_below_drewN | apply below_drew1) | exact HB.out)) hb); have n1_ := Aside0.mk (hbox); have n2_ := Aside0.mk ((by rw [hg]; exact (below_size (by repeat (first | (with_reducible first | exact HB.out | apply below_alloc | apply pw_below_drewN | apply below_drew1) | exact HB.out))) : w.heap.size ≤ gb266)); have n3_ := Aside0.mk ((by rw [hg]; exact (below_size (by repeat (first | (with_reducible first | exact HB.out | apply below_alloc | apply pw_below_drewN | apply below_drew1) | exact HB.out))) : w.heap.size ≤ gb266)); clear HB; have HB := n0_; have BK266 := n1_; have GW266 := n2_; have GE266 := n3_; clear n0_ n1_ n2_ n3_; clear hb hbox hg) | ((with_reducible refine gate_dst (N := 3) rfl ?_); (try (refine gate_guard (by rfl) ?_; dsimp only)); refine box_event ?hg (N := 3) ?hd (cs := #[.slice A1_0 l1_0.length c1_0]) (t := 26) ?hr ?_; (case hd => rfl); (case hg => rfl); (case hr => first | (go_simp; done) | (go_simp; rfl)); intro gb267 hg w5 hbox hb; have n0_ := Aside0.mk (blk_below (g := gb266) (o := .cells #[.int .i64 a0_0, .int .i64 a0_1, .int .i64 a0_2, .int .i64 a0_3, .int .i64 a0_4, .int .i64 a0_5, .int .i64 a0_6, .string a0_7] 23 (0, 0)) (by (with_reducible repeat (first | refine blk_drewN ?_ _ | refine blk_drew ?_ | refine blk_alloc ?_ _)); exact BK266.out) hb); have n1_ := Aside0.mk (below_step (by repeat (first | (with_reducible first | exact HB.out | apply below_alloc | apply pw_below_drewN | apply below_drew1 | refine below_set ?_ GE266.out) | exact HB.out)) hb); have n2_ := Aside0.mk (hbox); have n3_ := Aside0.mk ((by rw [hg]; exact (below_size (by repeat (first | (with_reducible first | exact HB.out | apply below_alloc | apply pw_below_drewN | apply below_drew1 | refine below_set ?_ GE266.out) | exact HB.out))) : w.heap.size ≤ gb267)); have n4_ := Aside0.mk ((by rw [hg]; exact (below_size (by repeat (first | (with_reducible first | exact HB.out | apply below_alloc | apply pw_below_drewN | apply below_drew1 | refine below_set ?_ GE266.out) | exact HB.out))) : w.heap.size ≤ gb267)); have n5_ := Aside0.mk ((by rw [hg]; exact Nat.ne_of_lt (blk_lt (g := gb266) (o := .cells #[.int .i64 a0_0, .int .i64 a0_1, .int .i64 a0_2, .int .i64 a0_3, .int .i64 a0_4, .int .i64 a0_5, .int .i64 a0_6, .string a0_7] 23 (0, 0)) (by (with_reducible repeat (first | refine blk_drewN ?_ _ | refine blk_drew ?_ | refine blk_alloc ?_ _)); exact BK266.out)) : gb266 ≠ gb267)); have n6_ := Aside0.mk ((by rw [hg]; exact Nat.ne_of_gt (blk_lt (g := gb266) (o := .cells #[.int .i64 a0_0, .int .i64 a0_1, .int .i64 a0_2, .int .i64 a0_3, .int .i64 a0_4, .int .i64 a0_5, .int .i64 a0_6, .string a0_7] 23 (0, 0)) (by (with_reducible repeat (first | refine blk_drewN ?_ _ | refine blk_drew ?_ | refine blk_alloc ?_ _)); exact BK266.out)) : gb267 ≠ gb266)); clear BK266; clear HB; have BK266 := n0_; have HB := n1_; have BK267 := n2_; have GW267 := n3_; have GE267 := n4_; have NB266_267 := n5_; have NB267_266 := n6_; clear n0_ n1_ n2_ n3_ n4_ n5_ n6_; clear hb hbox hg))
 (try simp only [Act.put, List.setIfInBounds_toArray, List.set_cons_zero, List.set_cons_succ])
 go_cut [13] (fun v13 wc => ∃ (kq : Nat) (x13_2 : Bool), v13 = .bool x13_2 ∧ Aside0 (haywainlaw22_NetRights.j0 kq x13_2 a0_0 a0_1 a0_2 a0_3 a0_4 a0_5 a0_6 a0_7 l1_0 = some r) ∧ Aside0 (kq ≤ k) ∧ Aside0 (wc.heap[gb266]? = some (.cells #[.int .i64 a0_0, .int .i64 a0_1, .int .i64 a0_2, .int .i64 a0_3, .int .i64 a0_4, .int .i64 a0_5, .int .i64 a0_6, .string a0_7] 23 (0, 0))) ∧ Aside0 (wc.heap[gb267]? = some (.cells #[(.slice A1_0 l1_0.length c1_0)] 26 (0, 0))) ∧ Aside0 (Below w.heap.size w wc))
 case first =>
  have H := HC3.out
  clear HC3
  replace H := Option.bind_eq_some_iff.mp H
  obtain ⟨t268, A60, H⟩ := H
  replace H : (if t268 = true then (haywainlaw22_NetRights.j0 k true a0_0 a0_1 a0_2 a0_3 a0_4 a0_5 a0_6 a0_7 l1_0) else (haywainlaw22_NetRights.j0 k (decide ((a0_7.size : Int) > 10000)) a0_0 a0_1 a0_2 a0_3 a0_4 a0_5 a0_6 a0_7 l1_0)) = some r := H
  have A6 := Aside0.mk A60
  clear A60
  by_cases c7 : t268 = true
  ·subst c7
   have H1 : (haywainlaw22_NetRights.j0 k true a0_0 a0_1 a0_2 a0_3 a0_4 a0_5 a0_6 a0_7 l1_0) = some r := by rw [if_pos rfl] at H; exact H
   clear H
   have H := H1
   clear H1
   have H' := Aside0.mk H
   clear H
   have hnb8 := NB267_266.out
   have hnc8 := NB266_267.out
   have hcz9_0 : w5.cell? ⟨gb267, 0, none⟩ = some (.slice A1_0 l1_0.length c1_0) := (blk_cell BK267.out 0).trans rfl
   have hfz9_0 := blk_frozen BK267.out 0
   go_wp2_with (first | ((with_reducible refine gate_callee (f := 8) rfl ?_); refine goesL_ (some 7) rfl rfl Try.func8 (by kernel_rfl) rfl #[.slice A1_0 l1_0.length c1_0] rfl (by (try simp only [List.map_toArray, List.map_cons, List.map_nil]); first | done | rfl | (simp only [List.length_drop, List.length_take]; rfl)) ?_; (with_reducible refine (haywainlaw22_great.calls k _ _ l1_0 true _ ?side1 ?side2 A6.out).mono ?_); (case side1 => repeat (first | exact (Kd.C_below HR1_0.out HB.out) | (with_reducible refine Kd.C_alloc ?_ _) | (with_reducible refine Kd.C_drewN ?_ _) | (with_reducible refine Kd.C_drew ?_))); (case side2 => exact HC1_0.out); rintro e w' ⟨rfl, ⟨nd, rfl⟩⟩; refine ⟨_, rfl, ?_⟩))
   go_meet
   case rel => exact ⟨_, (true), (by first | rfl | (simp; done) | (simp [*]; done)), H', ⟨by first | omega | exact Nat.le_refl _⟩, ⟨by (with_reducible repeat (first | refine blk_drewN ?_ _ | refine blk_drew ?_ | refine blk_alloc ?_ _)); exact BK266.out⟩, ⟨by (with_reducible repeat (first | refine blk_drewN ?_ _ | refine blk_drew ?_ | refine blk_alloc ?_ _)); exact BK267.out⟩, ⟨by repeat (first | (with_reducible first | exact HB.out | apply below_alloc | apply pw_below_drewN | apply below_drew1 | refine below_set ?_ GE266.out | refine below_set ?_ GE267.out) | exact HB.out)⟩⟩
  ·replace c7 := Bool.eq_false_iff.mpr c7
   subst c7
   have H1 : (haywainlaw22_NetRights.j0 k (decide ((a0_7.size : Int) > 10000)) a0_0 a0_1 a0_2 a0_3 a0_4 a0_5 a0_6 a0_7 l1_0) = some r := by rw [if_neg (show ¬ (false = true) by decide)] at H; exact H
   clear H
   have H := H1
   clear H1
   have H' := Aside0.mk H
   clear H
   have hnb10 := NB267_266.out
   have hnc10 := NB266_267.out
   have hcz11_0 : w5.cell? ⟨gb267, 0, none⟩ = some (.slice A1_0 l1_0.length c1_0) := (blk_cell BK267.out 0).trans rfl
   have hfz11_0 := blk_frozen BK267.out 0
   go_wp2_with (first | ((with_reducible refine gate_callee (f := 8) rfl ?_); refine goesL_ (some 7) rfl rfl Try.func8 (by kernel_rfl) rfl #[.slice A1_0 l1_0.length c1_0] rfl (by (try simp only [List.map_toArray, List.map_cons, List.map_nil]); first | done | rfl | (simp only [List.length_drop, List.length_take]; rfl)) ?_; (with_reducible refine (haywainlaw22_great.calls k _ _ l1_0 false _ ?side1 ?side2 A6.out).mono ?_); (case side1 => repeat (first | exact (Kd.C_below HR1_0.out HB.out) | (with_reducible refine Kd.C_alloc ?_ _) | (with_reducible refine Kd.C_drewN ?_ _) | (with_reducible refine Kd.C_drew ?_))); (case side2 => exact HC1_0.out); rintro e w' ⟨rfl, ⟨nd, rfl⟩⟩; refine ⟨_, rfl, ?_⟩; have hcz12_0 : w5.cell? ⟨gb266, 0, none⟩ = some (.int .i64 a0_0) := (blk_cell BK266.out 0).trans rfl; have hcz12_1 : w5.cell? ⟨gb266, 1, none⟩ = some (.int .i64 a0_1) := (blk_cell BK266.out 1).trans rfl; have hcz12_2 : w5.cell? ⟨gb266, 2, none⟩ = some (.int .i64 a0_2) := (blk_cell BK266.out 2).trans rfl; have hcz12_3 : w5.cell? ⟨gb266, 3, none⟩ = some (.int .i64 a0_3) := (blk_cell BK266.out 3).trans rfl; have hcz12_4 : w5.cell? ⟨gb266, 4, none⟩ = some (.int .i64 a0_4) := (blk_cell BK266.out 4).trans rfl; have hcz12_5 : w5.cell? ⟨gb266, 5, none⟩ = some (.int .i64 a0_5) := (blk_cell BK266.out 5).trans rfl; have hcz12_6 : w5.cell? ⟨gb266, 6, none⟩ = some (.int .i64 a0_6) := (blk_cell BK266.out 6).trans rfl; have hcz12_7 : w5.cell? ⟨gb266, 7, none⟩ = some (.string a0_7) := (blk_cell BK266.out 7).trans rfl; have hfz12_0 := blk_frozen BK266.out 0; have hfz12_1 := blk_frozen BK266.out 1; have hfz12_2 := blk_frozen BK266.out 2; have hfz12_3 := blk_frozen BK266.out 3; have hfz12_4 := blk_frozen BK266.out 4; have hfz12_5 := blk_frozen BK266.out 5; have hfz12_6 := blk_frozen BK266.out 6; have hfz12_7 := blk_frozen BK266.out 7))
   go_meet
   case rel => exact ⟨_, (decide ((a0_7.size : Int) > 10000)), (by first | rfl | (simp; done) | (simp [*]; done)), H', ⟨by first | omega | exact Nat.le_refl _⟩, ⟨by (with_reducible repeat (first | refine blk_drewN ?_ _ | refine blk_drew ?_ | refine blk_alloc ?_ _)); exact BK266.out⟩, ⟨by (with_reducible repeat (first | refine blk_drewN ?_ _ | refine blk_drew ?_ | refine blk_alloc ?_ _)); exact BK267.out⟩, ⟨by repeat (first | (with_reducible first | exact HB.out | apply below_alloc | apply pw_below_drewN | apply below_drew1 | refine below_set ?_ GE266.out | refine below_set ?_ GE267.out) | exact HB.out)⟩⟩
 case rest =>
  clear HC3
  try clear c1
  try clear p2
  try clear c3
  try clear c7
  try clear c8
  try clear c10
  try clear hcz11_0
  try clear hcz12_0
  try clear hcz12_1
  try clear hcz12_2
  try clear hcz12_3
  try clear hcz12_4
  try clear hcz12_5
  try clear hcz12_6
  try clear hcz12_7
  try clear hcz9_0
  try clear hfz11_0
  try clear hfz12_0
  try clear hfz12_1
  try clear hfz12_2
  try clear hfz12_3
  try clear hfz12_4
  try clear hfz12_5
  try clear hfz12_6
  try clear hfz12_7
  try clear hfz9_0
  obtain ⟨kq, x13_2, rfl, HA, HJ2, BK266, BK267, HB⟩ := hcut
  cases kq with
  | zero => exact absurd HA.out (by simp [haywainlaw22_NetRights.j0])
  | succ kj2 =>
   have H := HA.out
   clear HA
   simp only [haywainlaw22_NetRights.j0] at H
   by_cases c13 : x13_2 = true
   ·subst c13
    have H1 : ((haywainlaw22_knows.f kj2).bind fun t269 => (some t269)) = some r := by rw [if_pos rfl] at H; exact H
    clear H
    have H := H1
    clear H1
    replace H := Option.bind_eq_some_iff.mp H
    obtain ⟨t269, A140, H⟩ := H
    replace H : (some t269) = some r := H
    have A14 := Aside0.mk A140
    clear A140
    obtain rfl := Option.some.inj H
    go_wp2_with (first | ((with_reducible refine gate_callee (f := 9) rfl ?_); refine goesL_ (some 14) rfl rfl Try.func9 (by kernel_rfl) rfl #[] rfl (by (try simp only [List.map_toArray, List.map_cons, List.map_nil]); first | done | rfl | (simp only [List.length_drop, List.length_take]; rfl)) ?_; (with_reducible refine (haywainlaw22_knows.calls kj2  t269 _ A14.out).mono ?_); rintro e w15 ⟨rfl, hb⟩; refine ⟨_, rfl, ?_⟩; have n0_ := Aside0.mk (blk_below (g := gb266) (o := .cells #[.int .i64 a0_0, .int .i64 a0_1, .int .i64 a0_2, .int .i64 a0_3, .int .i64 a0_4, .int .i64 a0_5, .int .i64 a0_6, .string a0_7] 23 (0, 0)) (by (with_reducible repeat (first | refine blk_drewN ?_ _ | refine blk_drew ?_ | refine blk_alloc ?_ _)); exact BK266.out) hb); have n1_ := Aside0.mk (blk_below (g := gb267) (o := .cells #[.slice A1_0 l1_0.length c1_0] 26 (0, 0)) (by (with_reducible repeat (first | refine blk_drewN ?_ _ | refine blk_drew ?_ | refine blk_alloc ?_ _)); exact BK267.out) hb); have n2_ := Aside0.mk (below_step (by repeat (first | (with_reducible first | exact HB.out | apply below_alloc | apply pw_below_drewN | apply below_drew1 | refine below_set ?_ GE266.out | refine below_set ?_ GE267.out) | exact HB.out)) hb); clear BK266; clear BK267; clear HB; have BK266 := n0_; have BK267 := n1_; have HB := n2_; clear n0_ n1_ n2_; (try clear hb); (try clear hb2); (try clear hk); (try clear hi)))
    go_ret
    exact ⟨by first | rfl | (simp [errW_none, errW_some] <;> rfl) | (simp [*, errW_none, errW_some] <;> rfl), by repeat (first | (with_reducible first | exact HB.out | apply below_alloc | apply pw_below_drewN | apply below_drew1 | refine below_set ?_ GE266.out | refine below_set ?_ GE267.out) | exact HB.out)⟩
   ·replace c13 := Bool.eq_false_iff.mpr c13
    subst c13
    have H1 : ((net_Fair.f a0_0 a0_1 a0_2 a0_3 a0_4 a0_5 a0_6 a0_7).bind fun t270 => ((haywainlaw22_As.f kj2 (([(⟨a0_0, a0_1, a0_2, a0_3, a0_4, a0_5, a0_6, a0_7⟩ : S23)] : List (S23)))).bind fun t274 => (if 0 < (t274.length : Int) then ((haywainref22_Fair.f kj2 ((rd_T31 t274 0).f0) ((rd_T31 t274 0).f1) ((rd_T31 t274 0).f2) ((rd_T31 t274 0).f3) ((rd_T31 t274 0).f4) ((rd_T31 t274 0).f5) ((rd_T31 t274 0).f6) ((rd_T31 t274 0).f7)).bind fun t278 => (if (t270 == t278) = true then ((net_Right.f kj2 l1_0).bind fun t279 => ((haywainlaw22_As.f kj2 l1_0).bind fun t280 => ((haywainref22_Right.f kj2 t280).bind fun t283 => (if (t279 == t283) = true then ((haywainlaw22_knows.f kj2).bind fun t284 => (some t284)) else (none))))) else (none))) else (none)))) = some r := by rw [if_neg (show ¬ (false = true) by decide)] at H; exact H
    clear H
    have H := H1
    clear H1
    replace H := Option.bind_eq_some_iff.mp H
    obtain ⟨t270, A160, H⟩ := H
    replace H : ((haywainlaw22_As.f kj2 (([(⟨a0_0, a0_1, a0_2, a0_3, a0_4, a0_5, a0_6, a0_7⟩ : S23)] : List (S23)))).bind fun t274 => (if 0 < (t274.length : Int) then ((haywainref22_Fair.f kj2 ((rd_T31 t274 0).f0) ((rd_T31 t274 0).f1) ((rd_T31 t274 0).f2) ((rd_T31 t274 0).f3) ((rd_T31 t274 0).f4) ((rd_T31 t274 0).f5) ((rd_T31 t274 0).f6) ((rd_T31 t274 0).f7)).bind fun t278 => (if (t270 == t278) = true then ((net_Right.f kj2 l1_0).bind fun t279 => ((haywainlaw22_As.f kj2 l1_0).bind fun t280 => ((haywainref22_Right.f kj2 t280).bind fun t283 => (if (t279 == t283) = true then ((haywainlaw22_knows.f kj2).bind fun t284 => (some t284)) else (none))))) else (none))) else (none))) = some r := H
    have A16 := Aside0.mk A160
    clear A160
    obtain ⟨y271, hy271⟩ : ∃ y_ : List (S23), y_ = (([(⟨a0_0, a0_1, a0_2, a0_3, a0_4, a0_5, a0_6, a0_7⟩ : S23)] : List (S23))) := ⟨_, rfl⟩
    replace H : ((haywainlaw22_As.f kj2 y271).bind fun t274 => (if 0 < (t274.length : Int) then ((haywainref22_Fair.f kj2 ((rd_T31 t274 0).f0) ((rd_T31 t274 0).f1) ((rd_T31 t274 0).f2) ((rd_T31 t274 0).f3) ((rd_T31 t274 0).f4) ((rd_T31 t274 0).f5) ((rd_T31 t274 0).f6) ((rd_T31 t274 0).f7)).bind fun t278 => (if (t270 == t278) = true then ((net_Right.f kj2 l1_0).bind fun t279 => ((haywainlaw22_As.f kj2 l1_0).bind fun t280 => ((haywainref22_Right.f kj2 t280).bind fun t283 => (if (t279 == t283) = true then ((haywainlaw22_knows.f kj2).bind fun t284 => (some t284)) else (none))))) else (none))) else (none))) = some r := by first | (rw [hy271]; with_reducible exact H) | (have H2_ := (Option.bind_some _ _).symm.trans H; rw [hy271]; with_reducible exact H2_) | (have H2_ := (Option.bind_some _ _).symm.trans H; with_reducible exact H2_) | with_reducible exact H | (rw [hy271]; exact H) | exact H
    have Ny271 := Aside0.mk hy271
    clear hy271
    replace H := Option.bind_eq_some_iff.mp H
    obtain ⟨t274, A170, H⟩ := H
    replace H : (if 0 < (t274.length : Int) then ((haywainref22_Fair.f kj2 ((rd_T31 t274 0).f0) ((rd_T31 t274 0).f1) ((rd_T31 t274 0).f2) ((rd_T31 t274 0).f3) ((rd_T31 t274 0).f4) ((rd_T31 t274 0).f5) ((rd_T31 t274 0).f6) ((rd_T31 t274 0).f7)).bind fun t278 => (if (t270 == t278) = true then ((net_Right.f kj2 l1_0).bind fun t279 => ((haywainlaw22_As.f kj2 l1_0).bind fun t280 => ((haywainref22_Right.f kj2 t280).bind fun t283 => (if (t279 == t283) = true then ((haywainlaw22_knows.f kj2).bind fun t284 => (some t284)) else (none))))) else (none))) else (none)) = some r := H
    have A17 := Aside0.mk A170
    clear A170
    by_cases c18 : 0 < (t274.length : Int)
    ·rw [if_pos c18] at H
     have c18b0 : decide (0 < (t274.length : Int)) = true := decide_eq_true c18
     have c18b1 : decide (0 < t274.length) = true := decide_eq_true (by omega)
     clear c18
     replace H := Option.bind_eq_some_iff.mp H
     obtain ⟨t278, A190, H⟩ := H
     replace H : (if (t270 == t278) = true then ((net_Right.f kj2 l1_0).bind fun t279 => ((haywainlaw22_As.f kj2 l1_0).bind fun t280 => ((haywainref22_Right.f kj2 t280).bind fun t283 => (if (t279 == t283) = true then ((haywainlaw22_knows.f kj2).bind fun t284 => (some t284)) else (none))))) else (none)) = some r := H
     have A19 := Aside0.mk A190
     clear A190
     by_cases c20 : (t270 == t278) = true
     ·rw [if_pos c20] at H
      have c20b0 : (t270 == t278) = true := c20
      (try (have c20b1 : decide (t270 = t278) = true := by simpa using c20))
      (try (have c20b2 : (t270 == t278) = true := by simpa using c20))
      clear c20
      replace H := Option.bind_eq_some_iff.mp H
      obtain ⟨t279, A210, H⟩ := H
      replace H : ((haywainlaw22_As.f kj2 l1_0).bind fun t280 => ((haywainref22_Right.f kj2 t280).bind fun t283 => (if (t279 == t283) = true then ((haywainlaw22_knows.f kj2).bind fun t284 => (some t284)) else (none)))) = some r := H
      have A21 := Aside0.mk A210
      clear A210
      replace H := Option.bind_eq_some_iff.mp H
      obtain ⟨t280, A220, H⟩ := H
      replace H : ((haywainref22_Right.f kj2 t280).bind fun t283 => (if (t279 == t283) = true then ((haywainlaw22_knows.f kj2).bind fun t284 => (some t284)) else (none))) = some r := H
      have A22 := Aside0.mk A220
      clear A220
      replace H := Option.bind_eq_some_iff.mp H
      obtain ⟨t283, A230, H⟩ := H
      replace H : (if (t279 == t283) = true then ((haywainlaw22_knows.f kj2).bind fun t284 => (some t284)) else (none)) = some r := H
      have A23 := Aside0.mk A230
      clear A230
      by_cases c24 : (t279 == t283) = true
      ·rw [if_pos c24] at H
       have c24b0 : (t279 == t283) = true := c24
       (try (have c24b1 : decide (t279 = t283) = true := by simpa using c24))
       (try (have c24b2 : (t279 == t283) = true := by simpa using c24))
       clear c24
       replace H := Option.bind_eq_some_iff.mp H
       obtain ⟨t284, A250, H⟩ := H
       replace H : (some t284) = some r := H
       have A25 := Aside0.mk A250
       clear A250
       obtain rfl := Option.some.inj H
       try go_wp2
       have pi277 : (0 ≤ (0 : Int)) = True := eq_true (by omega)
       have qi277 : (0 < (t274.length : Int)) = True := eq_true (of_decide_eq_true (by first | (with_reducible assumption) | assumption))
       have n0_ := Aside0.mk (blk_drew BK266.out)
       have n1_ := Aside0.mk (blk_drew BK267.out)
       have n2_ := Aside0.mk (below_drew1 HB.out)
       clear BK266
       clear BK267
       clear HB
       have BK266 := n0_
       have BK267 := n1_
       have HB := n2_
       clear n0_ n1_ n2_
       refine start_ (n := 22) (S := fun w' => True) (ds := []) #[false, false, false, false, false, false, false, false, false, false, false, false, false, false, false, false, false, false, false, false, false, false] (by kernel_rfl) rfl rfl trivial (fun hHeld => ?_); refine with_tabW haywainlaw22_NetRights.tab3 haywainlaw22_NetRights.bits3 (fun HT_ HW_ => ?_)
       generalize wc.drew = w26 at BK266 BK267 HB hHeld ⊢
       refine inv_at [0, 1, 2, 3, 4, 5, 6, 7, 8, 9, 10, 11, 12, 13, 14, 15, 16, 17, 18, 19, 20, 21] (fun a0_ b a w' => ∃ (v272 : Value) (v275 : Value) (v281 : Value) (m5_ : Value), a = putSel a0_ b [(0, 15, .agg #[.int .i64 a0_0, .int .i64 a0_1, .int .i64 a0_2, .int .i64 a0_3, .int .i64 a0_4, .int .i64 a0_5, .int .i64 a0_6, .string a0_7]), (1, 16, .bool t270), (2, 17, .agg #[.int .i64 a0_0, .int .i64 a0_1, .int .i64 a0_2, .int .i64 a0_3, .int .i64 a0_4, .int .i64 a0_5, .int .i64 a0_6, .string a0_7]), (3, 18, v272), (4, 19, v275), (5, 20, m5_), (6, 21, .agg #[.int .i64 ((rd_T31 t274 0).f0), .int .i64 ((rd_T31 t274 0).f1), .int .i64 ((rd_T31 t274 0).f2), .int .i64 ((rd_T31 t274 0).f3), .int .i64 ((rd_T31 t274 0).f4), .int .i64 ((rd_T31 t274 0).f5), .int .i64 ((rd_T31 t274 0).f6), .string ((rd_T31 t274 0).f7)]), (7, 22, .bool t278), (8, 23, .bool (t270 == t278)), (9, 24, .bool (t270 == t278)), (10, 25, .agg #[.slice A1_0 l1_0.length c1_0]), (11, 26, .bool t279), (12, 27, .pointer (some ⟨gb267, 0, none⟩)), (13, 28, .slice A1_0 l1_0.length c1_0), (14, 29, v281), (15, 30, .bool t283), (16, 31, .bool (t279 == t283)), (17, 32, .bool (t279 == t283)), (18, 33, .bool (t279 == t283)), (19, 34, .bool t284), (20, 35, .bool t284), (21, 4, .bool t284)] ∧ (w'.heap[gb266]? = some (.cells #[.int .i64 a0_0, .int .i64 a0_1, .int .i64 a0_2, .int .i64 a0_3, .int .i64 a0_4, .int .i64 a0_5, .int .i64 a0_6, .string a0_7] 23 (0, 0))) ∧ (w'.heap[gb267]? = some (.cells #[.slice A1_0 l1_0.length c1_0] 26 (0, 0))) ∧ (Below w.heap.size w w') ∧ (b 3 = true → Kd.R k23 23 w' w.heap.size (fun k_ => k_ ≠ gb266) v272 y271) ∧ (b 4 = true → Kd.R k31 31 w' w.heap.size (fun _ => True) v275 t274) ∧ (b 14 = true → Kd.R k31 31 w' w.heap.size (fun _ => True) v281 t280) ∧ (b 5 = true → (m5_ : Value) = .pointer (some (rowAd v275)))) HT_.out HW_.out (by kernel_rfl) (by kernel_rfl) ?_ ?_ ?_
       ·exact ⟨.bool false, .bool false, .bool false, .bool false, by simp only [putSel, Bool.false_eq_true, if_false], BK266.out, BK267.out, HB.out, fun h_ => absurd h_ (by decide), fun h_ => absurd h_ (by decide), fun h_ => absurd h_ (by decide), fun h_ => absurd h_ (by decide)⟩
       ·skip
        clear BK266 BK267 HB
        refine steps_cons ?_ ?_
        ·rintro b a w' ⟨v272, v275, v281, m5_, ha, Q_BK266, Q_BK267, Q_HB, Q_HO273, Q_HO276, Q_HO282, Q_X5_⟩ hb_ hon hoff
         refine ⟨_, rfl, fun K hK => ?_⟩
         have e2 : a.tmps[2]? = some (.pointer (some ⟨gb266, 0, none⟩)) := by rw [ha]; exact (putSel_off rfl).trans rfl
         replace ha := Aside0.mk ha
         have BK266 := Aside0.mk Q_BK266
         have BK267 := Aside0.mk Q_BK267
         have HB := Aside0.mk Q_HB
         have hc0_ : w'.cell? ⟨gb266, 0, none⟩ = some (.int .i64 a0_0) := (blk_cell BK266.out 0).trans rfl
         have hc1_ : w'.cell? ⟨gb266, 1, none⟩ = some (.int .i64 a0_1) := (blk_cell BK266.out 1).trans rfl
         have hc2_ : w'.cell? ⟨gb266, 2, none⟩ = some (.int .i64 a0_2) := (blk_cell BK266.out 2).trans rfl
         have hc3_ : w'.cell? ⟨gb266, 3, none⟩ = some (.int .i64 a0_3) := (blk_cell BK266.out 3).trans rfl
         have hc4_ : w'.cell? ⟨gb266, 4, none⟩ = some (.int .i64 a0_4) := (blk_cell BK266.out 4).trans rfl
         have hc5_ : w'.cell? ⟨gb266, 5, none⟩ = some (.int .i64 a0_5) := (blk_cell BK266.out 5).trans rfl
         have hc6_ : w'.cell? ⟨gb266, 6, none⟩ = some (.int .i64 a0_6) := (blk_cell BK266.out 6).trans rfl
         have hc7_ : w'.cell? ⟨gb266, 7, none⟩ = some (.string a0_7) := (blk_cell BK266.out 7).trans rfl
         refine value_ (w1 := w') (v := .agg #[.int .i64 a0_0, .int .i64 a0_1, .int .i64 a0_2, .int .i64 a0_3, .int .i64 a0_4, .int .i64 a0_5, .int .i64 a0_6, .string a0_7]) (by rfl) rfl ?_ ?_
         ·go_simp
          (try simp only [i64_w])
          try rfl
         refine hK.out _ _ ⟨v272, v275, v281, m5_, (by rw [ha.out]; exact putSel_upk 0 hb_ rfl rfl rfl), Q_BK266, Q_BK267, Q_HB, Q_HO273, fun h0_ => absurd ((hoff 4 (by kernel_rfl)).symm.trans h0_) (by decide), fun h0_ => absurd ((hoff 14 (by kernel_rfl)).symm.trans h0_) (by decide), fun h0_ => absurd ((hoff 5 (by kernel_rfl)).symm.trans h0_) (by decide)⟩
        refine steps_cons ?_ ?_
        ·rintro b a w' ⟨v272, v275, v281, m5_, ha, Q_BK266, Q_BK267, Q_HB, Q_HO273, Q_HO276, Q_HO282, Q_X5_⟩ hb_ hon hoff
         refine ⟨_, rfl, fun K hK => ?_⟩
         have e15 : a.tmps[15]? = some (.agg #[.int .i64 a0_0, .int .i64 a0_1, .int .i64 a0_2, .int .i64 a0_3, .int .i64 a0_4, .int .i64 a0_5, .int .i64 a0_6, .string a0_7]) := by rw [ha]; exact putSel_on (e := (0, 15, .agg #[.int .i64 a0_0, .int .i64 a0_1, .int .i64 a0_2, .int .i64 a0_3, .int .i64 a0_4, .int .i64 a0_5, .int .i64 a0_6, .string a0_7])) 0 rfl rfl (hon 0 (by kernel_rfl)) rfl
         replace ha := Aside0.mk ha
         have BK266 := Aside0.mk Q_BK266
         have BK267 := Aside0.mk Q_BK267
         have HB := Aside0.mk Q_HB
         refine goes_ Try.func10 (by kernel_rfl) rfl #[.agg #[.int .i64 a0_0, .int .i64 a0_1, .int .i64 a0_2, .int .i64 a0_3, .int .i64 a0_4, .int .i64 a0_5, .int .i64 a0_6, .string a0_7]] (by rfl) rfl rfl (by first | (simp only [List.map_toArray, List.map_cons, List.map_nil, Act.eval, Array.getD_eq_getD_getElem?, Option.getD_some, e15]; done) | (simp only [List.map_toArray, List.map_cons, List.map_nil, Act.eval, Array.getD_eq_getD_getElem?, Option.getD_some, e15]; rfl)) ?_
         with_reducible refine (net_Fair.calls a0_0 a0_1 a0_2 a0_3 a0_4 a0_5 a0_6 a0_7 t270 _ A16.out).mono ?_
         rintro e w27 ⟨rfl, hb⟩
         refine ⟨_, rfl, ?_⟩
         have n0_ := Aside0.mk (blk_below (g := gb266) (o := .cells #[.int .i64 a0_0, .int .i64 a0_1, .int .i64 a0_2, .int .i64 a0_3, .int .i64 a0_4, .int .i64 a0_5, .int .i64 a0_6, .string a0_7] 23 (0, 0)) (by (with_reducible repeat (first | refine blk_drewN ?_ _ | refine blk_drew ?_ | refine blk_alloc ?_ _)); exact BK266.out) hb)
         have n1_ := Aside0.mk (blk_below (g := gb267) (o := .cells #[.slice A1_0 l1_0.length c1_0] 26 (0, 0)) (by (with_reducible repeat (first | refine blk_drewN ?_ _ | refine blk_drew ?_ | refine blk_alloc ?_ _)); exact BK267.out) hb)
         have n2_ := Aside0.mk (below_step (by repeat (first | (with_reducible first | exact HB.out | apply below_alloc | apply pw_below_drewN | apply below_drew1 | refine below_set ?_ GE266.out | refine below_set ?_ GE267.out) | exact HB.out)) hb)
         have z_HO273 := fun (h0_ : b 3 = true) => (show Kd.R k23 23 w27 w.heap.size (fun k_ => k_ ≠ gb266) v272 y271 from by first | exact (Kd.R_below (by (with_reducible repeat (first | apply Kd.R_alloc | apply Kd.R_drewN | apply Kd.R_drew)); exact (Q_HO273 h0_)) hb) | exact Kd.R_mono (Kd.R_below (by (with_reducible repeat (first | apply Kd.R_alloc | apply Kd.R_drewN | apply Kd.R_drew)); exact (Q_HO273 h0_)) hb) (fun _ h_ => by first | trivial | exact h_ | exact h_.1))
         clear BK266
         clear BK267
         clear HB
         have BK266 := n0_
         have BK267 := n1_
         have HB := n2_
         clear n0_ n1_ n2_
         (try clear hb)
         (try clear hb2)
         (try clear hk)
         (try clear hi)
         refine hK.out _ _ ⟨v272, v275, v281, m5_, (by rw [ha.out]; exact putSel_upk 1 hb_ rfl rfl rfl), (by (with_reducible repeat (first | refine blk_drewN ?_ _ | refine blk_drew ?_ | refine blk_alloc ?_ _)); exact BK266.out), (by (with_reducible repeat (first | refine blk_drewN ?_ _ | refine blk_drew ?_ | refine blk_alloc ?_ _)); exact BK267.out), (by repeat (first | (with_reducible first | exact HB.out | apply below_alloc | apply pw_below_drewN | apply below_drew1 | refine below_set ?_ GE266.out | refine below_set ?_ GE267.out) | exact HB.out)), z_HO273, fun h0_ => absurd ((hoff 4 (by kernel_rfl)).symm.trans h0_) (by decide), fun h0_ => absurd ((hoff 14 (by kernel_rfl)).symm.trans h0_) (by decide), fun h0_ => absurd ((hoff 5 (by kernel_rfl)).symm.trans h0_) (by decide)⟩
        refine steps_cons ?_ ?_
        ·rintro b a w' ⟨v272, v275, v281, m5_, ha, Q_BK266, Q_BK267, Q_HB, Q_HO273, Q_HO276, Q_HO282, Q_X5_⟩ hb_ hon hoff
         refine ⟨_, rfl, fun K hK => ?_⟩
         have e2 : a.tmps[2]? = some (.pointer (some ⟨gb266, 0, none⟩)) := by rw [ha]; exact (putSel_off rfl).trans rfl
         replace ha := Aside0.mk ha
         have BK266 := Aside0.mk Q_BK266
         have BK267 := Aside0.mk Q_BK267
         have HB := Aside0.mk Q_HB
         have hc0_ : w'.cell? ⟨gb266, 0, none⟩ = some (.int .i64 a0_0) := (blk_cell BK266.out 0).trans rfl
         have hc1_ : w'.cell? ⟨gb266, 1, none⟩ = some (.int .i64 a0_1) := (blk_cell BK266.out 1).trans rfl
         have hc2_ : w'.cell? ⟨gb266, 2, none⟩ = some (.int .i64 a0_2) := (blk_cell BK266.out 2).trans rfl
         have hc3_ : w'.cell? ⟨gb266, 3, none⟩ = some (.int .i64 a0_3) := (blk_cell BK266.out 3).trans rfl
         have hc4_ : w'.cell? ⟨gb266, 4, none⟩ = some (.int .i64 a0_4) := (blk_cell BK266.out 4).trans rfl
         have hc5_ : w'.cell? ⟨gb266, 5, none⟩ = some (.int .i64 a0_5) := (blk_cell BK266.out 5).trans rfl
         have hc6_ : w'.cell? ⟨gb266, 6, none⟩ = some (.int .i64 a0_6) := (blk_cell BK266.out 6).trans rfl
         have hc7_ : w'.cell? ⟨gb266, 7, none⟩ = some (.string a0_7) := (blk_cell BK266.out 7).trans rfl
         refine value_ (w1 := w') (v := .agg #[.int .i64 a0_0, .int .i64 a0_1, .int .i64 a0_2, .int .i64 a0_3, .int .i64 a0_4, .int .i64 a0_5, .int .i64 a0_6, .string a0_7]) (by rfl) rfl ?_ ?_
         ·go_simp
          (try simp only [i64_w])
          try rfl
         refine hK.out _ _ ⟨v272, v275, v281, m5_, (by rw [ha.out]; exact putSel_upk 2 hb_ rfl rfl rfl), Q_BK266, Q_BK267, Q_HB, fun h0_ => absurd ((hoff 3 (by kernel_rfl)).symm.trans h0_) (by decide), fun h0_ => absurd ((hoff 4 (by kernel_rfl)).symm.trans h0_) (by decide), fun h0_ => absurd ((hoff 14 (by kernel_rfl)).symm.trans h0_) (by decide), fun h0_ => absurd ((hoff 5 (by kernel_rfl)).symm.trans h0_) (by decide)⟩
        refine steps_cons ?_ ?_
        ·rintro b a w' ⟨v272, v275, v281, m5_, ha, Q_BK266, Q_BK267, Q_HB, Q_HO273, Q_HO276, Q_HO282, Q_X5_⟩ hb_ hon hoff
         refine ⟨_, rfl, fun K hK => ?_⟩
         have e17 : a.tmps[17]? = some (.agg #[.int .i64 a0_0, .int .i64 a0_1, .int .i64 a0_2, .int .i64 a0_3, .int .i64 a0_4, .int .i64 a0_5, .int .i64 a0_6, .string a0_7]) := by rw [ha]; exact putSel_on (e := (2, 17, .agg #[.int .i64 a0_0, .int .i64 a0_1, .int .i64 a0_2, .int .i64 a0_3, .int .i64 a0_4, .int .i64 a0_5, .int .i64 a0_6, .string a0_7])) 2 rfl rfl (hon 2 (by kernel_rfl)) rfl
         replace ha := Aside0.mk ha
         have BK266 := Aside0.mk Q_BK266
         have BK267 := Aside0.mk Q_BK267
         have HB := Aside0.mk Q_HB
         refine Kd.R_lit_step k23 _ 23 ?hg (N := 18) ?hd (xs := ([(⟨a0_0, a0_1, a0_2, a0_3, a0_4, a0_5, a0_6, a0_7⟩ : S23)] : List (S23))) (inner := [.int .i64 a0_0, .int .i64 a0_1, .int .i64 a0_2, .int .i64 a0_3, .int .i64 a0_4, .int .i64 a0_5, .int .i64 a0_6, .string a0_7]) (ok := fun _ => True) (okp := fun _ => True) ?hr ?hp (fun _ hk => hk) trivial (Below.refl _ _) (Nat.le_refl _) (by simp) ?_; (case hd => rfl); (case hg => rfl); (case hr => first | (go_simp; done) | (go_simp; rfl)); (case hp => exact (Reps.c8 (show Kd.M k23 _ _ _ (⟨a0_0, a0_1, a0_2, a0_3, a0_4, a0_5, a0_6, a0_7⟩ : S23) [.int .i64 a0_0, .int .i64 a0_1, .int .i64 a0_2, .int .i64 a0_3, .int .i64 a0_4, .int .i64 a0_5, .int .i64 a0_6, .string a0_7] from (k23_mkM _ _ _ (⟨a0_0, a0_1, a0_2, a0_3, a0_4, a0_5, a0_6, a0_7⟩ : S23) )) (Reps.none _ _)))
         intro v272 w27 ho28 hb hg_ hnew_
         clear hg_ hnew_
         (first | rw [← Ny271.out] at ho28 | (simp only [Int.reduceToNat] at ho28; rw [← Ny271.out] at ho28))
         have n0_ := Aside0.mk (Kd.R_lower (Kd.R_newB ho28 (g := gb266) (o := .cells #[.int .i64 a0_0, .int .i64 a0_1, .int .i64 a0_2, .int .i64 a0_3, .int .i64 a0_4, .int .i64 a0_5, .int .i64 a0_6, .string a0_7] 23 (0, 0)) (by (with_reducible repeat (first | refine blk_drewN ?_ _ | refine blk_drew ?_ | refine blk_alloc ?_ _)); exact BK266.out)) (below_size (by repeat (first | (with_reducible first | exact HB.out | apply below_alloc | apply pw_below_drewN | apply below_drew1 | refine below_set ?_ GE266.out | refine below_set ?_ GE267.out) | exact HB.out))))
         have n1_ := Aside0.mk (blk_below (g := gb266) (o := .cells #[.int .i64 a0_0, .int .i64 a0_1, .int .i64 a0_2, .int .i64 a0_3, .int .i64 a0_4, .int .i64 a0_5, .int .i64 a0_6, .string a0_7] 23 (0, 0)) (by (with_reducible repeat (first | refine blk_drewN ?_ _ | refine blk_drew ?_ | refine blk_alloc ?_ _)); exact BK266.out) hb)
         have n2_ := Aside0.mk (blk_below (g := gb267) (o := .cells #[.slice A1_0 l1_0.length c1_0] 26 (0, 0)) (by (with_reducible repeat (first | refine blk_drewN ?_ _ | refine blk_drew ?_ | refine blk_alloc ?_ _)); exact BK267.out) hb)
         have n3_ := Aside0.mk (below_step (by repeat (first | (with_reducible first | exact HB.out | apply below_alloc | apply pw_below_drewN | apply below_drew1 | refine below_set ?_ GE266.out | refine below_set ?_ GE267.out) | exact HB.out)) hb)
         clear BK266
         clear BK267
         clear HB
         have HO273 := n0_
         have BK266 := n1_
         have BK267 := n2_
         have HB := n3_
         clear n0_ n1_ n2_ n3_
         clear hb ho28
         refine hK.out _ _ ⟨v272, v275, v281, m5_, (by rw [ha.out]; exact putSel_upk 3 hb_ rfl rfl rfl), (by (with_reducible repeat (first | refine blk_drewN ?_ _ | refine blk_drew ?_ | refine blk_alloc ?_ _)); exact BK266.out), (by (with_reducible repeat (first | refine blk_drewN ?_ _ | refine blk_drew ?_ | refine blk_alloc ?_ _)); exact BK267.out), (by repeat (first | (with_reducible first | exact HB.out | apply below_alloc | apply pw_below_drewN | apply below_drew1 | refine below_set ?_ GE266.out | refine below_set ?_ GE267.out) | exact HB.out)), fun _ => (by (with_reducible repeat (first | apply Kd.R_alloc | apply Kd.R_drewN | apply Kd.R_drew)); exact Kd.R_mono HO273.out (fun _ hk => by first | exact hk.2 | trivial)), fun h0_ => absurd ((hoff 4 (by kernel_rfl)).symm.trans h0_) (by decide), fun h0_ => absurd ((hoff 14 (by kernel_rfl)).symm.trans h0_) (by decide), fun h0_ => absurd ((hoff 5 (by kernel_rfl)).symm.trans h0_) (by decide)⟩
        refine steps_cons ?_ ?_
        ·rintro b a w' ⟨v272, v275, v281, m5_, ha, Q_BK266, Q_BK267, Q_HB, Q_HO273, Q_HO276, Q_HO282, Q_X5_⟩ hb_ hon hoff
         refine ⟨_, rfl, fun K hK => ?_⟩
         have e18 : a.tmps[18]? = some (v272) := by rw [ha]; exact putSel_on (e := (3, 18, v272)) 3 rfl rfl (hon 3 (by kernel_rfl)) rfl
         replace ha := Aside0.mk ha
         have BK266 := Aside0.mk Q_BK266
         have BK267 := Aside0.mk Q_BK267
         have HB := Aside0.mk Q_HB
         have HO273 := Aside0.mk (Q_HO273 (hon 3 (by kernel_rfl)))
         obtain ⟨Ao31, co31, eo31⟩ := Kd.R_slice HO273.out
         (first | subst eo31 | (injection eo31 with f1_ f2_ f3_; have f4_ := f1_.symm; have f5_ := f3_.symm; clear f1_ f2_ f3_; subst f4_; subst f5_))
         refine goes_ Try.func12 (by kernel_rfl) rfl #[.slice Ao31 y271.length co31] (by rfl) rfl rfl (by first | (simp only [List.map_toArray, List.map_cons, List.map_nil, Act.eval, Array.getD_eq_getD_getElem?, Option.getD_some, e18]; done) | (simp only [List.map_toArray, List.map_cons, List.map_nil, Act.eval, Array.getD_eq_getD_getElem?, Option.getD_some, e18]; rfl)) ?_
         with_reducible refine (haywainlaw22_As.calls kj2 _ _ y271 t274 _ ?side1 ?side2 A17.out).mono ?_
         (case side1 => repeat (first | exact (Kd.R_reads' HO273.out).2.2 | (with_reducible refine Kd.C_alloc ?_ _) | (with_reducible refine Kd.C_drewN ?_ _) | (with_reducible refine Kd.C_drew ?_)))
         (case side2 => exact (Kd.R_reads' HO273.out).2.1)
         rintro e w32 ⟨v275, rfl, ho0, hb⟩
         refine ⟨_, rfl, ?_⟩
         have n0_ := Aside0.mk (Kd.R_below (by (with_reducible repeat (first | apply Kd.R_alloc | apply Kd.R_drewN | apply Kd.R_drew)); exact HO273.out) hb)
         have n1_ := Aside0.mk (Kd.R_lower ho0 (below_size (by repeat (first | (with_reducible first | exact HB.out | apply below_alloc | apply pw_below_drewN | apply below_drew1 | refine below_set ?_ GE266.out | refine below_set ?_ GE267.out) | exact HB.out))))
         have n2_ := Aside0.mk (blk_below (g := gb266) (o := .cells #[.int .i64 a0_0, .int .i64 a0_1, .int .i64 a0_2, .int .i64 a0_3, .int .i64 a0_4, .int .i64 a0_5, .int .i64 a0_6, .string a0_7] 23 (0, 0)) (by (with_reducible repeat (first | refine blk_drewN ?_ _ | refine blk_drew ?_ | refine blk_alloc ?_ _)); exact BK266.out) hb)
         have n3_ := Aside0.mk (blk_below (g := gb267) (o := .cells #[.slice A1_0 l1_0.length c1_0] 26 (0, 0)) (by (with_reducible repeat (first | refine blk_drewN ?_ _ | refine blk_drew ?_ | refine blk_alloc ?_ _)); exact BK267.out) hb)
         have n4_ := Aside0.mk (below_step (by repeat (first | (with_reducible first | exact HB.out | apply below_alloc | apply pw_below_drewN | apply below_drew1 | refine below_set ?_ GE266.out | refine below_set ?_ GE267.out) | exact HB.out)) hb)
         clear HO273
         clear BK266
         clear BK267
         clear HB
         have HO273 := n0_
         have HO276 := n1_
         have BK266 := n2_
         have BK267 := n3_
         have HB := n4_
         clear n0_ n1_ n2_ n3_ n4_
         (try clear hb)
         (try clear hb2)
         (try clear hk)
         (try clear hi)
         (try clear ho0)
         refine hK.out _ _ ⟨.slice Ao31 y271.length co31, v275, v281, m5_, (by rw [ha.out]; exact putSel_upk 4 hb_ rfl rfl rfl), (by (with_reducible repeat (first | refine blk_drewN ?_ _ | refine blk_drew ?_ | refine blk_alloc ?_ _)); exact BK266.out), (by (with_reducible repeat (first | refine blk_drewN ?_ _ | refine blk_drew ?_ | refine blk_alloc ?_ _)); exact BK267.out), (by repeat (first | (with_reducible first | exact HB.out | apply below_alloc | apply pw_below_drewN | apply below_drew1 | refine below_set ?_ GE266.out | refine below_set ?_ GE267.out) | exact HB.out)), fun _ => (by (with_reducible repeat (first | apply Kd.R_alloc | apply Kd.R_drewN | apply Kd.R_drew)); exact HO273.out), fun _ => (by (with_reducible repeat (first | apply Kd.R_alloc | apply Kd.R_drewN | apply Kd.R_drew)); exact HO276.out), fun h0_ => absurd ((hoff 14 (by kernel_rfl)).symm.trans h0_) (by decide), fun h0_ => absurd ((hoff 5 (by kernel_rfl)).symm.trans h0_) (by decide)⟩
        refine steps_cons ?_ ?_
        ·rintro b a w' ⟨v272, v275, v281, m5_, ha, Q_BK266, Q_BK267, Q_HB, Q_HO273, Q_HO276, Q_HO282, Q_X5_⟩ hb_ hon hoff
         refine ⟨_, rfl, fun K hK => ?_⟩
         have e19 : a.tmps[19]? = some (v275) := by rw [ha]; exact putSel_on (e := (4, 19, v275)) 4 rfl rfl (hon 4 (by kernel_rfl)) rfl
         replace ha := Aside0.mk ha
         have BK266 := Aside0.mk Q_BK266
         have BK267 := Aside0.mk Q_BK267
         have HB := Aside0.mk Q_HB
         have HO273 := Aside0.mk (Q_HO273 (hon 3 (by kernel_rfl)))
         have HO276 := Aside0.mk (Q_HO276 (hon 4 (by kernel_rfl)))
         obtain ⟨A_, c_, hv_⟩ := Kd.R_slice HO276.out
         have hF_ := HO276.out
         rw [hv_] at hF_
         obtain ⟨ad277_z, e277_z, hx277_0_z, hx277_1_z, hx277_2_z, hx277_3_z, hx277_4_z, hx277_5_z, hx277_6_z, hx277_7_z⟩ := at_T31 (Kd.R_reads' hF_).2.2 0 (of_eq_true pi277) (of_eq_true qi277)
         cases e277_z
         rw [hv_] at e19
         have ql_ := of_eq_true qi277
         have hne_ : t274 ≠ [] := fun e_ => by rw [e_] at ql_; simp at ql_; try omega
         have ra_ : rowAd v275 = ad277_z := by rw [hv_]; rfl
         clear hv_ hF_
         refine value_ (w1 := w') (v := .pointer (some (rowAd v275))) (by rfl) rfl ?_ ?_
         ·go_simp
          (try simp only [i64_w])
          try rfl
         refine hK.out _ _ ⟨v272, v275, v281, (.pointer (some (rowAd v275))), (by rw [ha.out]; exact putSel_upk 5 hb_ rfl rfl rfl), Q_BK266, Q_BK267, Q_HB, Q_HO273, Q_HO276, fun h0_ => absurd ((hoff 14 (by kernel_rfl)).symm.trans h0_) (by decide), fun _ => rfl⟩
        refine steps_cons ?_ ?_
        ·rintro b a w' ⟨v272, v275, v281, m5_, ha, Q_BK266, Q_BK267, Q_HB, Q_HO273, Q_HO276, Q_HO282, Q_X5_⟩ hb_ hon hoff
         refine ⟨_, rfl, fun K hK => ?_⟩
         have e20 : a.tmps[20]? = some (m5_) := by rw [ha]; exact putSel_on (e := (5, 20, m5_)) 5 rfl rfl (hon 5 (by kernel_rfl)) rfl
         rw [Q_X5_ (hon 5 (by kernel_rfl))] at e20
         replace ha := Aside0.mk ha
         have BK266 := Aside0.mk Q_BK266
         have BK267 := Aside0.mk Q_BK267
         have HB := Aside0.mk Q_HB
         have HO273 := Aside0.mk (Q_HO273 (hon 3 (by kernel_rfl)))
         have HO276 := Aside0.mk (Q_HO276 (hon 4 (by kernel_rfl)))
         obtain ⟨A_, c_, hv_⟩ := Kd.R_slice HO276.out
         have hF_ := HO276.out
         rw [hv_] at hF_
         obtain ⟨ad277_z, e277_z, hx277_0_z, hx277_1_z, hx277_2_z, hx277_3_z, hx277_4_z, hx277_5_z, hx277_6_z, hx277_7_z⟩ := at_T31 (Kd.R_reads' hF_).2.2 0 (of_eq_true pi277) (of_eq_true qi277)
         cases e277_z
         have ra_ : rowAd v275 = ad277_z := by rw [hv_]; rfl
         rw [ra_] at e20
         clear ra_ hv_
         have hs0_ : w'.cell? ad277_z = some (.int .i64 ((rd_T31 t274 0).f0)) := (by first | exact hx277_0_z | (have h_ := hx277_0_z; (try simp only [Int.reduceToNat, Nat.zero_mul, Nat.reduceMul, Nat.reduceEqDiff, Go.Addr.add, ↓reduceIte, Addr.add_zero'] at h_); exact h_))
         have hs1_ : w'.cell? ⟨ad277_z.block, ad277_z.off + 1, none⟩ = some (.int .i64 ((rd_T31 t274 0).f1)) := (by first | exact hx277_1_z | (have h_ := hx277_1_z; (try simp only [Int.reduceToNat, Nat.zero_mul, Nat.reduceMul, Nat.reduceEqDiff, Go.Addr.add, ↓reduceIte, Addr.add_zero'] at h_); exact h_))
         have hs2_ : w'.cell? ⟨ad277_z.block, ad277_z.off + 2, none⟩ = some (.int .i64 ((rd_T31 t274 0).f2)) := (by first | exact hx277_2_z | (have h_ := hx277_2_z; (try simp only [Int.reduceToNat, Nat.zero_mul, Nat.reduceMul, Nat.reduceEqDiff, Go.Addr.add, ↓reduceIte, Addr.add_zero'] at h_); exact h_))
         have hs3_ : w'.cell? ⟨ad277_z.block, ad277_z.off + 3, none⟩ = some (.int .i64 ((rd_T31 t274 0).f3)) := (by first | exact hx277_3_z | (have h_ := hx277_3_z; (try simp only [Int.reduceToNat, Nat.zero_mul, Nat.reduceMul, Nat.reduceEqDiff, Go.Addr.add, ↓reduceIte, Addr.add_zero'] at h_); exact h_))
         have hs4_ : w'.cell? ⟨ad277_z.block, ad277_z.off + 4, none⟩ = some (.int .i64 ((rd_T31 t274 0).f4)) := (by first | exact hx277_4_z | (have h_ := hx277_4_z; (try simp only [Int.reduceToNat, Nat.zero_mul, Nat.reduceMul, Nat.reduceEqDiff, Go.Addr.add, ↓reduceIte, Addr.add_zero'] at h_); exact h_))
         have hs5_ : w'.cell? ⟨ad277_z.block, ad277_z.off + 5, none⟩ = some (.int .i64 ((rd_T31 t274 0).f5)) := (by first | exact hx277_5_z | (have h_ := hx277_5_z; (try simp only [Int.reduceToNat, Nat.zero_mul, Nat.reduceMul, Nat.reduceEqDiff, Go.Addr.add, ↓reduceIte, Addr.add_zero'] at h_); exact h_))
         have hs6_ : w'.cell? ⟨ad277_z.block, ad277_z.off + 6, none⟩ = some (.int .i64 ((rd_T31 t274 0).f6)) := (by first | exact hx277_6_z | (have h_ := hx277_6_z; (try simp only [Int.reduceToNat, Nat.zero_mul, Nat.reduceMul, Nat.reduceEqDiff, Go.Addr.add, ↓reduceIte, Addr.add_zero'] at h_); exact h_))
         have hs7_ : w'.cell? ⟨ad277_z.block, ad277_z.off + 7, none⟩ = some (.string ((rd_T31 t274 0).f7)) := (by first | exact hx277_7_z | (have h_ := hx277_7_z; (try simp only [Int.reduceToNat, Nat.zero_mul, Nat.reduceMul, Nat.reduceEqDiff, Go.Addr.add, ↓reduceIte, Addr.add_zero'] at h_); exact h_))
         refine value_ (w1 := w') (v := .agg #[.int .i64 ((rd_T31 t274 0).f0), .int .i64 ((rd_T31 t274 0).f1), .int .i64 ((rd_T31 t274 0).f2), .int .i64 ((rd_T31 t274 0).f3), .int .i64 ((rd_T31 t274 0).f4), .int .i64 ((rd_T31 t274 0).f5), .int .i64 ((rd_T31 t274 0).f6), .string ((rd_T31 t274 0).f7)]) (by rfl) rfl ?_ ?_
         ·go_simp
          (try simp only [i64_w])
          try rfl
         refine hK.out _ _ ⟨v272, v275, v281, m5_, (by rw [ha.out]; exact putSel_upk 6 hb_ rfl rfl rfl), Q_BK266, Q_BK267, Q_HB, Q_HO273, Q_HO276, fun h0_ => absurd ((hoff 14 (by kernel_rfl)).symm.trans h0_) (by decide), Q_X5_⟩
        refine steps_cons ?_ ?_
        ·rintro b a w' ⟨v272, v275, v281, m5_, ha, Q_BK266, Q_BK267, Q_HB, Q_HO273, Q_HO276, Q_HO282, Q_X5_⟩ hb_ hon hoff
         refine ⟨_, rfl, fun K hK => ?_⟩
         have e21 : a.tmps[21]? = some (.agg #[.int .i64 ((rd_T31 t274 0).f0), .int .i64 ((rd_T31 t274 0).f1), .int .i64 ((rd_T31 t274 0).f2), .int .i64 ((rd_T31 t274 0).f3), .int .i64 ((rd_T31 t274 0).f4), .int .i64 ((rd_T31 t274 0).f5), .int .i64 ((rd_T31 t274 0).f6), .string ((rd_T31 t274 0).f7)]) := by rw [ha]; exact putSel_on (e := (6, 21, .agg #[.int .i64 ((rd_T31 t274 0).f0), .int .i64 ((rd_T31 t274 0).f1), .int .i64 ((rd_T31 t274 0).f2), .int .i64 ((rd_T31 t274 0).f3), .int .i64 ((rd_T31 t274 0).f4), .int .i64 ((rd_T31 t274 0).f5), .int .i64 ((rd_T31 t274 0).f6), .string ((rd_T31 t274 0).f7)])) 6 rfl rfl (hon 6 (by kernel_rfl)) rfl
         replace ha := Aside0.mk ha
         have BK266 := Aside0.mk Q_BK266
         have BK267 := Aside0.mk Q_BK267
         have HB := Aside0.mk Q_HB
         have HO273 := Aside0.mk (Q_HO273 (hon 3 (by kernel_rfl)))
         have HO276 := Aside0.mk (Q_HO276 (hon 4 (by kernel_rfl)))
         refine goes_ Try.func11 (by kernel_rfl) rfl #[.agg #[.int .i64 ((rd_T31 t274 0).f0), .int .i64 ((rd_T31 t274 0).f1), .int .i64 ((rd_T31 t274 0).f2), .int .i64 ((rd_T31 t274 0).f3), .int .i64 ((rd_T31 t274 0).f4), .int .i64 ((rd_T31 t274 0).f5), .int .i64 ((rd_T31 t274 0).f6), .string ((rd_T31 t274 0).f7)]] (by rfl) rfl rfl (by first | (simp only [List.map_toArray, List.map_cons, List.map_nil, Act.eval, Array.getD_eq_getD_getElem?, Option.getD_some, e21]; done) | (simp only [List.map_toArray, List.map_cons, List.map_nil, Act.eval, Array.getD_eq_getD_getElem?, Option.getD_some, e21]; rfl)) ?_
         with_reducible refine (haywainref22_Fair.calls kj2 ((rd_T31 t274 0).f0) ((rd_T31 t274 0).f1) ((rd_T31 t274 0).f2) ((rd_T31 t274 0).f3) ((rd_T31 t274 0).f4) ((rd_T31 t274 0).f5) ((rd_T31 t274 0).f6) ((rd_T31 t274 0).f7) t278 _ A19.out).mono ?_
         rintro e w33 ⟨rfl, hb⟩
         refine ⟨_, rfl, ?_⟩
         have n0_ := Aside0.mk (Kd.R_below (by (with_reducible repeat (first | apply Kd.R_alloc | apply Kd.R_drewN | apply Kd.R_drew)); exact HO273.out) hb)
         have n1_ := Aside0.mk (Kd.R_below (by (with_reducible repeat (first | apply Kd.R_alloc | apply Kd.R_drewN | apply Kd.R_drew)); exact HO276.out) hb)
         have n2_ := Aside0.mk (blk_below (g := gb266) (o := .cells #[.int .i64 a0_0, .int .i64 a0_1, .int .i64 a0_2, .int .i64 a0_3, .int .i64 a0_4, .int .i64 a0_5, .int .i64 a0_6, .string a0_7] 23 (0, 0)) (by (with_reducible repeat (first | refine blk_drewN ?_ _ | refine blk_drew ?_ | refine blk_alloc ?_ _)); exact BK266.out) hb)
         have n3_ := Aside0.mk (blk_below (g := gb267) (o := .cells #[.slice A1_0 l1_0.length c1_0] 26 (0, 0)) (by (with_reducible repeat (first | refine blk_drewN ?_ _ | refine blk_drew ?_ | refine blk_alloc ?_ _)); exact BK267.out) hb)
         have n4_ := Aside0.mk (below_step (by repeat (first | (with_reducible first | exact HB.out | apply below_alloc | apply pw_below_drewN | apply below_drew1 | refine below_set ?_ GE266.out | refine below_set ?_ GE267.out) | exact HB.out)) hb)
         clear HO273
         clear HO276
         clear BK266
         clear BK267
         clear HB
         have HO273 := n0_
         have HO276 := n1_
         have BK266 := n2_
         have BK267 := n3_
         have HB := n4_
         clear n0_ n1_ n2_ n3_ n4_
         (try clear hb)
         (try clear hb2)
         (try clear hk)
         (try clear hi)
         refine hK.out _ _ ⟨v272, v275, v281, m5_, (by rw [ha.out]; exact putSel_upk 7 hb_ rfl rfl rfl), (by (with_reducible repeat (first | refine blk_drewN ?_ _ | refine blk_drew ?_ | refine blk_alloc ?_ _)); exact BK266.out), (by (with_reducible repeat (first | refine blk_drewN ?_ _ | refine blk_drew ?_ | refine blk_alloc ?_ _)); exact BK267.out), (by repeat (first | (with_reducible first | exact HB.out | apply below_alloc | apply pw_below_drewN | apply below_drew1 | refine below_set ?_ GE266.out | refine below_set ?_ GE267.out) | exact HB.out)), fun _ => (by (with_reducible repeat (first | apply Kd.R_alloc | apply Kd.R_drewN | apply Kd.R_drew)); exact HO273.out), fun _ => (by (with_reducible repeat (first | apply Kd.R_alloc | apply Kd.R_drewN | apply Kd.R_drew)); exact HO276.out), fun h0_ => absurd ((hoff 14 (by kernel_rfl)).symm.trans h0_) (by decide), Q_X5_⟩
        refine steps_cons ?_ ?_
        ·rintro b a w' ⟨v272, v275, v281, m5_, ha, Q_BK266, Q_BK267, Q_HB, Q_HO273, Q_HO276, Q_HO282, Q_X5_⟩ hb_ hon hoff
         refine ⟨_, rfl, fun K hK => ?_⟩
         have e16 : a.tmps[16]? = some (.bool t270) := by rw [ha]; exact putSel_on (e := (1, 16, .bool t270)) 1 rfl rfl (hon 1 (by kernel_rfl)) rfl
         have e22 : a.tmps[22]? = some (.bool t278) := by rw [ha]; exact putSel_on (e := (7, 22, .bool t278)) 7 rfl rfl (hon 7 (by kernel_rfl)) rfl
         replace ha := Aside0.mk ha
         have BK266 := Aside0.mk Q_BK266
         have BK267 := Aside0.mk Q_BK267
         have HB := Aside0.mk Q_HB
         have HO273 := Aside0.mk (Q_HO273 (hon 3 (by kernel_rfl)))
         have HO276 := Aside0.mk (Q_HO276 (hon 4 (by kernel_rfl)))
         refine value_ (w1 := w') (v := .bool (t270 == t278)) (by rfl) rfl ?_ ?_
         ·go_simp
          (try simp only [i64_w])
          try rfl
         refine hK.out _ _ ⟨v272, v275, v281, m5_, (by rw [ha.out]; exact putSel_upk 8 hb_ rfl rfl rfl), Q_BK266, Q_BK267, Q_HB, Q_HO273, Q_HO276, fun h0_ => absurd ((hoff 14 (by kernel_rfl)).symm.trans h0_) (by decide), Q_X5_⟩
        refine steps_cons ?_ ?_
        ·rintro b a w' ⟨v272, v275, v281, m5_, ha, Q_BK266, Q_BK267, Q_HB, Q_HO273, Q_HO276, Q_HO282, Q_X5_⟩ hb_ hon hoff
         refine ⟨_, rfl, fun K hK => ?_⟩
         have e23 : a.tmps[23]? = some (.bool (t270 == t278)) := by rw [ha]; exact putSel_on (e := (8, 23, .bool (t270 == t278))) 8 rfl rfl (hon 8 (by kernel_rfl)) rfl
         replace ha := Aside0.mk ha
         have BK266 := Aside0.mk Q_BK266
         have BK267 := Aside0.mk Q_BK267
         have HB := Aside0.mk Q_HB
         have HO273 := Aside0.mk (Q_HO273 (hon 3 (by kernel_rfl)))
         have HO276 := Aside0.mk (Q_HO276 (hon 4 (by kernel_rfl)))
         refine value_ (w1 := w') (v := .bool (t270 == t278)) (by rfl) rfl ?_ ?_
         ·go_simp
          (try simp only [i64_w])
          try rfl
         refine hK.out _ _ ⟨v272, v275, v281, m5_, (by rw [ha.out]; exact putSel_upk 9 hb_ rfl rfl rfl), Q_BK266, Q_BK267, Q_HB, Q_HO273, Q_HO276, fun h0_ => absurd ((hoff 14 (by kernel_rfl)).symm.trans h0_) (by decide), Q_X5_⟩
        refine steps_cons ?_ ?_
        ·rintro b a w' ⟨v272, v275, v281, m5_, ha, Q_BK266, Q_BK267, Q_HB, Q_HO273, Q_HO276, Q_HO282, Q_X5_⟩ hb_ hon hoff
         refine ⟨_, rfl, fun K hK => ?_⟩
         have e3 : a.tmps[3]? = some (.pointer (some ⟨gb267, 0, none⟩)) := by rw [ha]; exact (putSel_off rfl).trans rfl
         have e24 : a.tmps[24]? = some (.bool (t270 == t278)) := by rw [ha]; exact putSel_on (e := (9, 24, .bool (t270 == t278))) 9 rfl rfl (hon 9 (by kernel_rfl)) rfl
         replace ha := Aside0.mk ha
         have BK266 := Aside0.mk Q_BK266
         have BK267 := Aside0.mk Q_BK267
         have HB := Aside0.mk Q_HB
         have HO273 := Aside0.mk (Q_HO273 (hon 3 (by kernel_rfl)))
         have HO276 := Aside0.mk (Q_HO276 (hon 4 (by kernel_rfl)))
         have hc0_ : w'.cell? ⟨gb267, 0, none⟩ = some (.slice A1_0 l1_0.length c1_0) := (blk_cell BK267.out 0).trans rfl
         refine value_ (w1 := w') (v := .agg #[.slice A1_0 l1_0.length c1_0]) (wanted_on rfl rfl rfl (e24.trans (by first | rfl | (simp [*]; done)))) rfl ?_ ?_
         ·go_simp
          (try simp only [i64_w])
          try rfl
         refine hK.out _ _ ⟨v272, v275, v281, m5_, (by rw [ha.out]; exact putSel_upk 10 hb_ rfl rfl rfl), Q_BK266, Q_BK267, Q_HB, Q_HO273, Q_HO276, fun h0_ => absurd ((hoff 14 (by kernel_rfl)).symm.trans h0_) (by decide), Q_X5_⟩
        refine steps_cons ?_ ?_
        ·rintro b a w' ⟨v272, v275, v281, m5_, ha, Q_BK266, Q_BK267, Q_HB, Q_HO273, Q_HO276, Q_HO282, Q_X5_⟩ hb_ hon hoff
         refine ⟨_, rfl, fun K hK => ?_⟩
         have e25 : a.tmps[25]? = some (.agg #[.slice A1_0 l1_0.length c1_0]) := by rw [ha]; exact putSel_on (e := (10, 25, .agg #[.slice A1_0 l1_0.length c1_0])) 10 rfl rfl (hon 10 (by kernel_rfl)) rfl
         have e24 : a.tmps[24]? = some (.bool (t270 == t278)) := by rw [ha]; exact putSel_on (e := (9, 24, .bool (t270 == t278))) 9 rfl rfl (hon 9 (by kernel_rfl)) rfl
         replace ha := Aside0.mk ha
         have BK266 := Aside0.mk Q_BK266
         have BK267 := Aside0.mk Q_BK267
         have HB := Aside0.mk Q_HB
         have HO273 := Aside0.mk (Q_HO273 (hon 3 (by kernel_rfl)))
         have HO276 := Aside0.mk (Q_HO276 (hon 4 (by kernel_rfl)))
         refine goes_ Try.func13 (by kernel_rfl) rfl #[.agg #[.slice A1_0 l1_0.length c1_0]] (wanted_on rfl rfl rfl (e24.trans (by first | rfl | (simp [*]; done)))) rfl rfl (by first | (simp only [List.map_toArray, List.map_cons, List.map_nil, Act.eval, Array.getD_eq_getD_getElem?, Option.getD_some, e25, e24]; done) | (simp only [List.map_toArray, List.map_cons, List.map_nil, Act.eval, Array.getD_eq_getD_getElem?, Option.getD_some, e25, e24]; rfl)) ?_
         with_reducible refine (net_Right.calls kj2 _ _ l1_0 t279 _ ?side1 ?side2 A21.out).mono ?_
         (case side1 => repeat (first | exact (Kd.C_below HR1_0.out HB.out) | (with_reducible refine Kd.C_alloc ?_ _) | (with_reducible refine Kd.C_drewN ?_ _) | (with_reducible refine Kd.C_drew ?_)))
         (case side2 => exact HC1_0.out)
         rintro e w34 ⟨rfl, hb⟩
         refine ⟨_, rfl, ?_⟩
         have n0_ := Aside0.mk (Kd.R_below (by (with_reducible repeat (first | apply Kd.R_alloc | apply Kd.R_drewN | apply Kd.R_drew)); exact HO273.out) hb)
         have n1_ := Aside0.mk (Kd.R_below (by (with_reducible repeat (first | apply Kd.R_alloc | apply Kd.R_drewN | apply Kd.R_drew)); exact HO276.out) hb)
         have n2_ := Aside0.mk (blk_below (g := gb266) (o := .cells #[.int .i64 a0_0, .int .i64 a0_1, .int .i64 a0_2, .int .i64 a0_3, .int .i64 a0_4, .int .i64 a0_5, .int .i64 a0_6, .string a0_7] 23 (0, 0)) (by (with_reducible repeat (first | refine blk_drewN ?_ _ | refine blk_drew ?_ | refine blk_alloc ?_ _)); exact BK266.out) hb)
         have n3_ := Aside0.mk (blk_below (g := gb267) (o := .cells #[.slice A1_0 l1_0.length c1_0] 26 (0, 0)) (by (with_reducible repeat (first | refine blk_drewN ?_ _ | refine blk_drew ?_ | refine blk_alloc ?_ _)); exact BK267.out) hb)
         have n4_ := Aside0.mk (below_step (by repeat (first | (with_reducible first | exact HB.out | apply below_alloc | apply pw_below_drewN | apply below_drew1 | refine below_set ?_ GE266.out | refine below_set ?_ GE267.out) | exact HB.out)) hb)
         clear HO273
         clear HO276
         clear BK266
         clear BK267
         clear HB
         have HO273 := n0_
         have HO276 := n1_
         have BK266 := n2_
         have BK267 := n3_
         have HB := n4_
         clear n0_ n1_ n2_ n3_ n4_
         (try clear hb)
         (try clear hb2)
         (try clear hk)
         (try clear hi)
         refine hK.out _ _ ⟨v272, v275, v281, m5_, (by rw [ha.out]; exact putSel_upk 11 hb_ rfl rfl rfl), (by (with_reducible repeat (first | refine blk_drewN ?_ _ | refine blk_drew ?_ | refine blk_alloc ?_ _)); exact BK266.out), (by (with_reducible repeat (first | refine blk_drewN ?_ _ | refine blk_drew ?_ | refine blk_alloc ?_ _)); exact BK267.out), (by repeat (first | (with_reducible first | exact HB.out | apply below_alloc | apply pw_below_drewN | apply below_drew1 | refine below_set ?_ GE266.out | refine below_set ?_ GE267.out) | exact HB.out)), fun _ => (by (with_reducible repeat (first | apply Kd.R_alloc | apply Kd.R_drewN | apply Kd.R_drew)); exact HO273.out), fun _ => (by (with_reducible repeat (first | apply Kd.R_alloc | apply Kd.R_drewN | apply Kd.R_drew)); exact HO276.out), fun h0_ => absurd ((hoff 14 (by kernel_rfl)).symm.trans h0_) (by decide), Q_X5_⟩
        refine steps_cons ?_ ?_
        ·rintro b a w' ⟨v272, v275, v281, m5_, ha, Q_BK266, Q_BK267, Q_HB, Q_HO273, Q_HO276, Q_HO282, Q_X5_⟩ hb_ hon hoff
         refine ⟨_, rfl, fun K hK => ?_⟩
         have e3 : a.tmps[3]? = some (.pointer (some ⟨gb267, 0, none⟩)) := by rw [ha]; exact (putSel_off rfl).trans rfl
         have e24 : a.tmps[24]? = some (.bool (t270 == t278)) := by rw [ha]; exact putSel_on (e := (9, 24, .bool (t270 == t278))) 9 rfl rfl (hon 9 (by kernel_rfl)) rfl
         replace ha := Aside0.mk ha
         have BK266 := Aside0.mk Q_BK266
         have BK267 := Aside0.mk Q_BK267
         have HB := Aside0.mk Q_HB
         have HO273 := Aside0.mk (Q_HO273 (hon 3 (by kernel_rfl)))
         have HO276 := Aside0.mk (Q_HO276 (hon 4 (by kernel_rfl)))
         refine value_ (w1 := w') (v := .pointer (some ⟨gb267, 0, none⟩)) (wanted_on rfl rfl rfl (e24.trans (by first | rfl | (simp [*]; done)))) rfl ?_ ?_
         ·go_simp
          (try simp only [i64_w])
          try rfl
         refine hK.out _ _ ⟨v272, v275, v281, m5_, (by rw [ha.out]; exact putSel_upk 12 hb_ rfl rfl rfl), Q_BK266, Q_BK267, Q_HB, Q_HO273, Q_HO276, fun h0_ => absurd ((hoff 14 (by kernel_rfl)).symm.trans h0_) (by decide), Q_X5_⟩
        refine steps_cons ?_ ?_
        ·rintro b a w' ⟨v272, v275, v281, m5_, ha, Q_BK266, Q_BK267, Q_HB, Q_HO273, Q_HO276, Q_HO282, Q_X5_⟩ hb_ hon hoff
         refine ⟨_, rfl, fun K hK => ?_⟩
         have e27 : a.tmps[27]? = some (.pointer (some ⟨gb267, 0, none⟩)) := by rw [ha]; exact putSel_on (e := (12, 27, .pointer (some ⟨gb267, 0, none⟩))) 12 rfl rfl (hon 12 (by kernel_rfl)) rfl
         have e24 : a.tmps[24]? = some (.bool (t270 == t278)) := by rw [ha]; exact putSel_on (e := (9, 24, .bool (t270 == t278))) 9 rfl rfl (hon 9 (by kernel_rfl)) rfl
         replace ha := Aside0.mk ha
         have BK266 := Aside0.mk Q_BK266
         have BK267 := Aside0.mk Q_BK267
         have HB := Aside0.mk Q_HB
         have HO273 := Aside0.mk (Q_HO273 (hon 3 (by kernel_rfl)))
         have HO276 := Aside0.mk (Q_HO276 (hon 4 (by kernel_rfl)))
         have hc0_ : w'.cell? ⟨gb267, 0, none⟩ = some (.slice A1_0 l1_0.length c1_0) := (blk_cell BK267.out 0).trans rfl
         refine value_ (w1 := w') (v := .slice A1_0 l1_0.length c1_0) (wanted_on rfl rfl rfl (e24.trans (by first | rfl | (simp [*]; done)))) rfl ?_ ?_
         ·go_simp
          (try simp only [i64_w])
          try rfl
         refine hK.out _ _ ⟨v272, v275, v281, m5_, (by rw [ha.out]; exact putSel_upk 13 hb_ rfl rfl rfl), Q_BK266, Q_BK267, Q_HB, Q_HO273, Q_HO276, fun h0_ => absurd ((hoff 14 (by kernel_rfl)).symm.trans h0_) (by decide), Q_X5_⟩
        refine steps_cons ?_ ?_
        ·rintro b a w' ⟨v272, v275, v281, m5_, ha, Q_BK266, Q_BK267, Q_HB, Q_HO273, Q_HO276, Q_HO282, Q_X5_⟩ hb_ hon hoff
         refine ⟨_, rfl, fun K hK => ?_⟩
         have e28 : a.tmps[28]? = some (.slice A1_0 l1_0.length c1_0) := by rw [ha]; exact putSel_on (e := (13, 28, .slice A1_0 l1_0.length c1_0)) 13 rfl rfl (hon 13 (by kernel_rfl)) rfl
         have e24 : a.tmps[24]? = some (.bool (t270 == t278)) := by rw [ha]; exact putSel_on (e := (9, 24, .bool (t270 == t278))) 9 rfl rfl (hon 9 (by kernel_rfl)) rfl
         replace ha := Aside0.mk ha
         have BK266 := Aside0.mk Q_BK266
         have BK267 := Aside0.mk Q_BK267
         have HB := Aside0.mk Q_HB
         have HO273 := Aside0.mk (Q_HO273 (hon 3 (by kernel_rfl)))
         have HO276 := Aside0.mk (Q_HO276 (hon 4 (by kernel_rfl)))
         refine goes_ Try.func12 (by kernel_rfl) rfl #[.slice A1_0 l1_0.length c1_0] (wanted_on rfl rfl rfl (e24.trans (by first | rfl | (simp [*]; done)))) rfl rfl (by first | (simp only [List.map_toArray, List.map_cons, List.map_nil, Act.eval, Array.getD_eq_getD_getElem?, Option.getD_some, e28, e24]; done) | (simp only [List.map_toArray, List.map_cons, List.map_nil, Act.eval, Array.getD_eq_getD_getElem?, Option.getD_some, e28, e24]; rfl)) ?_
         with_reducible refine (haywainlaw22_As.calls kj2 _ _ l1_0 t280 _ ?side1 ?side2 A22.out).mono ?_
         (case side1 => repeat (first | exact (Kd.C_below HR1_0.out HB.out) | (with_reducible refine Kd.C_alloc ?_ _) | (with_reducible refine Kd.C_drewN ?_ _) | (with_reducible refine Kd.C_drew ?_)))
         (case side2 => exact HC1_0.out)
         rintro e w35 ⟨v281, rfl, ho0, hb⟩
         refine ⟨_, rfl, ?_⟩
         have n0_ := Aside0.mk (Kd.R_below (by (with_reducible repeat (first | apply Kd.R_alloc | apply Kd.R_drewN | apply Kd.R_drew)); exact HO273.out) hb)
         have n1_ := Aside0.mk (Kd.R_elder' (by (with_reducible repeat (first | apply Kd.R_alloc | apply Kd.R_drewN | apply Kd.R_drew)); exact HO276.out) (Kd.R_base ho0) hb)
         have n2_ := Aside0.mk (Kd.R_lower (Kd.R_new' ho0 (Kd.R_lt (by (with_reducible repeat (first | apply Kd.R_alloc | apply Kd.R_drewN | apply Kd.R_drew)); exact HO276.out))) (below_size (by repeat (first | (with_reducible first | exact HB.out | apply below_alloc | apply pw_below_drewN | apply below_drew1 | refine below_set ?_ GE266.out | refine below_set ?_ GE267.out) | exact HB.out))))
         have n3_ := Aside0.mk (blk_below (g := gb266) (o := .cells #[.int .i64 a0_0, .int .i64 a0_1, .int .i64 a0_2, .int .i64 a0_3, .int .i64 a0_4, .int .i64 a0_5, .int .i64 a0_6, .string a0_7] 23 (0, 0)) (by (with_reducible repeat (first | refine blk_drewN ?_ _ | refine blk_drew ?_ | refine blk_alloc ?_ _)); exact BK266.out) hb)
         have n4_ := Aside0.mk (blk_below (g := gb267) (o := .cells #[.slice A1_0 l1_0.length c1_0] 26 (0, 0)) (by (with_reducible repeat (first | refine blk_drewN ?_ _ | refine blk_drew ?_ | refine blk_alloc ?_ _)); exact BK267.out) hb)
         have n5_ := Aside0.mk (below_step (by repeat (first | (with_reducible first | exact HB.out | apply below_alloc | apply pw_below_drewN | apply below_drew1 | refine below_set ?_ GE266.out | refine below_set ?_ GE267.out) | exact HB.out)) hb)
         clear HO273
         clear HO276
         clear BK266
         clear BK267
         clear HB
         have HO273 := n0_
         have HO276 := n1_
         have HO282 := n2_
         have BK266 := n3_
         have BK267 := n4_
         have HB := n5_
         clear n0_ n1_ n2_ n3_ n4_ n5_
         (try clear hb)
         (try clear hb2)
         (try clear hk)
         (try clear hi)
         (try clear ho0)
         refine hK.out _ _ ⟨v272, v275, v281, m5_, (by rw [ha.out]; exact putSel_upk 14 hb_ rfl rfl rfl), (by (with_reducible repeat (first | refine blk_drewN ?_ _ | refine blk_drew ?_ | refine blk_alloc ?_ _)); exact BK266.out), (by (with_reducible repeat (first | refine blk_drewN ?_ _ | refine blk_drew ?_ | refine blk_alloc ?_ _)); exact BK267.out), (by repeat (first | (with_reducible first | exact HB.out | apply below_alloc | apply pw_below_drewN | apply below_drew1 | refine below_set ?_ GE266.out | refine below_set ?_ GE267.out) | exact HB.out)), fun _ => (by (with_reducible repeat (first | apply Kd.R_alloc | apply Kd.R_drewN | apply Kd.R_drew)); exact HO273.out), fun _ => (by (with_reducible repeat (first | apply Kd.R_alloc | apply Kd.R_drewN | apply Kd.R_drew)); exact Kd.R_mono HO276.out (fun _ hk => by first | exact hk.2 | trivial)), fun _ => (by (with_reducible repeat (first | apply Kd.R_alloc | apply Kd.R_drewN | apply Kd.R_drew)); exact Kd.R_mono HO282.out (fun _ hk => by first | exact hk.2 | trivial)), Q_X5_⟩
        refine steps_cons ?_ ?_
        ·rintro b a w' ⟨v272, v275, v281, m5_, ha, Q_BK266, Q_BK267, Q_HB, Q_HO273, Q_HO276, Q_HO282, Q_X5_⟩ hb_ hon hoff
         refine ⟨_, rfl, fun K hK => ?_⟩
         have e29 : a.tmps[29]? = some (v281) := by rw [ha]; exact putSel_on (e := (14, 29, v281)) 14 rfl rfl (hon 14 (by kernel_rfl)) rfl
         have e24 : a.tmps[24]? = some (.bool (t270 == t278)) := by rw [ha]; exact putSel_on (e := (9, 24, .bool (t270 == t278))) 9 rfl rfl (hon 9 (by kernel_rfl)) rfl
         replace ha := Aside0.mk ha
         have BK266 := Aside0.mk Q_BK266
         have BK267 := Aside0.mk Q_BK267
         have HB := Aside0.mk Q_HB
         have HO273 := Aside0.mk (Q_HO273 (hon 3 (by kernel_rfl)))
         have HO276 := Aside0.mk (Q_HO276 (hon 4 (by kernel_rfl)))
         have HO282 := Aside0.mk (Q_HO282 (hon 14 (by kernel_rfl)))
         obtain ⟨Ao36, co36, eo36⟩ := Kd.R_slice HO282.out
         (first | subst eo36 | (injection eo36 with f1_ f2_ f3_; have f4_ := f1_.symm; have f5_ := f3_.symm; clear f1_ f2_ f3_; subst f4_; subst f5_))
         refine goes_ Try.func14 (by kernel_rfl) rfl #[.slice Ao36 t280.length co36] (wanted_on rfl rfl rfl (e24.trans (by first | rfl | (simp [*]; done)))) rfl rfl (by first | (simp only [List.map_toArray, List.map_cons, List.map_nil, Act.eval, Array.getD_eq_getD_getElem?, Option.getD_some, e29, e24]; done) | (simp only [List.map_toArray, List.map_cons, List.map_nil, Act.eval, Array.getD_eq_getD_getElem?, Option.getD_some, e29, e24]; rfl)) ?_
         with_reducible refine (haywainref22_Right.calls kj2 _ _ t280 t283 _ ?side1 ?side2 A23.out).mono ?_
         (case side1 => repeat (first | exact (Kd.R_reads' HO282.out).2.2 | (with_reducible refine Kd.C_alloc ?_ _) | (with_reducible refine Kd.C_drewN ?_ _) | (with_reducible refine Kd.C_drew ?_)))
         (case side2 => exact (Kd.R_reads' HO282.out).2.1)
         rintro e w37 ⟨rfl, hb⟩
         refine ⟨_, rfl, ?_⟩
         have n0_ := Aside0.mk (Kd.R_below (by (with_reducible repeat (first | apply Kd.R_alloc | apply Kd.R_drewN | apply Kd.R_drew)); exact HO273.out) hb)
         have n1_ := Aside0.mk (Kd.R_below (by (with_reducible repeat (first | apply Kd.R_alloc | apply Kd.R_drewN | apply Kd.R_drew)); exact HO276.out) hb)
         have n2_ := Aside0.mk (Kd.R_below (by (with_reducible repeat (first | apply Kd.R_alloc | apply Kd.R_drewN | apply Kd.R_drew)); exact HO282.out) hb)
         have n3_ := Aside0.mk (blk_below (g := gb266) (o := .cells #[.int .i64 a0_0, .int .i64 a0_1, .int .i64 a0_2, .int .i64 a0_3, .int .i64 a0_4, .int .i64 a0_5, .int .i64 a0_6, .string a0_7] 23 (0, 0)) (by (with_reducible repeat (first | refine blk_drewN ?_ _ | refine blk_drew ?_ | refine blk_alloc ?_ _)); exact BK266.out) hb)
         have n4_ := Aside0.mk (blk_below (g := gb267) (o := .cells #[.slice A1_0 l1_0.length c1_0] 26 (0, 0)) (by (with_reducible repeat (first | refine blk_drewN ?_ _ | refine blk_drew ?_ | refine blk_alloc ?_ _)); exact BK267.out) hb)
         have n5_ := Aside0.mk (below_step (by repeat (first | (with_reducible first | exact HB.out | apply below_alloc | apply pw_below_drewN | apply below_drew1 | refine below_set ?_ GE266.out | refine below_set ?_ GE267.out) | exact HB.out)) hb)
         clear HO273
         clear HO276
         clear HO282
         clear BK266
         clear BK267
         clear HB
         have HO273 := n0_
         have HO276 := n1_
         have HO282 := n2_
         have BK266 := n3_
         have BK267 := n4_
         have HB := n5_
         clear n0_ n1_ n2_ n3_ n4_ n5_
         (try clear hb)
         (try clear hb2)
         (try clear hk)
         (try clear hi)
         refine hK.out _ _ ⟨v272, v275, .slice Ao36 t280.length co36, m5_, (by rw [ha.out]; exact putSel_upk 15 hb_ rfl rfl rfl), (by (with_reducible repeat (first | refine blk_drewN ?_ _ | refine blk_drew ?_ | refine blk_alloc ?_ _)); exact BK266.out), (by (with_reducible repeat (first | refine blk_drewN ?_ _ | refine blk_drew ?_ | refine blk_alloc ?_ _)); exact BK267.out), (by repeat (first | (with_reducible first | exact HB.out | apply below_alloc | apply pw_below_drewN | apply below_drew1 | refine below_set ?_ GE266.out | refine below_set ?_ GE267.out) | exact HB.out)), fun _ => (by (with_reducible repeat (first | apply Kd.R_alloc | apply Kd.R_drewN | apply Kd.R_drew)); exact HO273.out), fun _ => (by (with_reducible repeat (first | apply Kd.R_alloc | apply Kd.R_drewN | apply Kd.R_drew)); exact HO276.out), fun _ => (by (with_reducible repeat (first | apply Kd.R_alloc | apply Kd.R_drewN | apply Kd.R_drew)); exact HO282.out), Q_X5_⟩
        refine steps_cons ?_ ?_
        ·rintro b a w' ⟨v272, v275, v281, m5_, ha, Q_BK266, Q_BK267, Q_HB, Q_HO273, Q_HO276, Q_HO282, Q_X5_⟩ hb_ hon hoff
         refine ⟨_, rfl, fun K hK => ?_⟩
         have e26 : a.tmps[26]? = some (.bool t279) := by rw [ha]; exact putSel_on (e := (11, 26, .bool t279)) 11 rfl rfl (hon 11 (by kernel_rfl)) rfl
         have e30 : a.tmps[30]? = some (.bool t283) := by rw [ha]; exact putSel_on (e := (15, 30, .bool t283)) 15 rfl rfl (hon 15 (by kernel_rfl)) rfl
         have e24 : a.tmps[24]? = some (.bool (t270 == t278)) := by rw [ha]; exact putSel_on (e := (9, 24, .bool (t270 == t278))) 9 rfl rfl (hon 9 (by kernel_rfl)) rfl
         replace ha := Aside0.mk ha
         have BK266 := Aside0.mk Q_BK266
         have BK267 := Aside0.mk Q_BK267
         have HB := Aside0.mk Q_HB
         have HO273 := Aside0.mk (Q_HO273 (hon 3 (by kernel_rfl)))
         have HO276 := Aside0.mk (Q_HO276 (hon 4 (by kernel_rfl)))
         have HO282 := Aside0.mk (Q_HO282 (hon 14 (by kernel_rfl)))
         refine value_ (w1 := w') (v := .bool (t279 == t283)) (wanted_on rfl rfl rfl (e24.trans (by first | rfl | (simp [*]; done)))) rfl ?_ ?_
         ·go_simp
          (try simp only [i64_w])
          try rfl
         refine hK.out _ _ ⟨v272, v275, v281, m5_, (by rw [ha.out]; exact putSel_upk 16 hb_ rfl rfl rfl), Q_BK266, Q_BK267, Q_HB, Q_HO273, Q_HO276, Q_HO282, Q_X5_⟩
        refine steps_cons ?_ ?_
        ·rintro b a w' ⟨v272, v275, v281, m5_, ha, Q_BK266, Q_BK267, Q_HB, Q_HO273, Q_HO276, Q_HO282, Q_X5_⟩ hb_ hon hoff
         refine ⟨_, rfl, fun K hK => ?_⟩
         have e24 : a.tmps[24]? = some (.bool (t270 == t278)) := by rw [ha]; exact putSel_on (e := (9, 24, .bool (t270 == t278))) 9 rfl rfl (hon 9 (by kernel_rfl)) rfl
         have e31 : a.tmps[31]? = some (.bool (t279 == t283)) := by rw [ha]; exact putSel_on (e := (16, 31, .bool (t279 == t283))) 16 rfl rfl (hon 16 (by kernel_rfl)) rfl
         replace ha := Aside0.mk ha
         have BK266 := Aside0.mk Q_BK266
         have BK267 := Aside0.mk Q_BK267
         have HB := Aside0.mk Q_HB
         have HO273 := Aside0.mk (Q_HO273 (hon 3 (by kernel_rfl)))
         have HO276 := Aside0.mk (Q_HO276 (hon 4 (by kernel_rfl)))
         have HO282 := Aside0.mk (Q_HO282 (hon 14 (by kernel_rfl)))
         refine value_ (w1 := w') (v := .bool (t279 == t283)) (by rfl) rfl ?_ ?_
         ·go_simp
          (try simp only [i64_w])
          try rfl
         refine hK.out _ _ ⟨v272, v275, v281, m5_, (by rw [ha.out]; exact putSel_upk 17 hb_ rfl rfl rfl), Q_BK266, Q_BK267, Q_HB, Q_HO273, Q_HO276, Q_HO282, Q_X5_⟩
        refine steps_cons ?_ ?_
        ·rintro b a w' ⟨v272, v275, v281, m5_, ha, Q_BK266, Q_BK267, Q_HB, Q_HO273, Q_HO276, Q_HO282, Q_X5_⟩ hb_ hon hoff
         refine ⟨_, rfl, fun K hK => ?_⟩
         have e32 : a.tmps[32]? = some (.bool (t279 == t283)) := by rw [ha]; exact putSel_on (e := (17, 32, .bool (t279 == t283))) 17 rfl rfl (hon 17 (by kernel_rfl)) rfl
         replace ha := Aside0.mk ha
         have BK266 := Aside0.mk Q_BK266
         have BK267 := Aside0.mk Q_BK267
         have HB := Aside0.mk Q_HB
         have HO273 := Aside0.mk (Q_HO273 (hon 3 (by kernel_rfl)))
         have HO276 := Aside0.mk (Q_HO276 (hon 4 (by kernel_rfl)))
         have HO282 := Aside0.mk (Q_HO282 (hon 14 (by kernel_rfl)))
         refine value_ (w1 := w') (v := .bool (t279 == t283)) (by rfl) rfl ?_ ?_
         ·go_simp
          (try simp only [i64_w])
          try rfl
         refine hK.out _ _ ⟨v272, v275, v281, m5_, (by rw [ha.out]; exact putSel_upk 18 hb_ rfl rfl rfl), Q_BK266, Q_BK267, Q_HB, Q_HO273, Q_HO276, Q_HO282, Q_X5_⟩
        refine steps_cons ?_ ?_
        ·rintro b a w' ⟨v272, v275, v281, m5_, ha, Q_BK266, Q_BK267, Q_HB, Q_HO273, Q_HO276, Q_HO282, Q_X5_⟩ hb_ hon hoff
         refine ⟨_, rfl, fun K hK => ?_⟩
         have e33 : a.tmps[33]? = some (.bool (t279 == t283)) := by rw [ha]; exact putSel_on (e := (18, 33, .bool (t279 == t283))) 18 rfl rfl (hon 18 (by kernel_rfl)) rfl
         replace ha := Aside0.mk ha
         have BK266 := Aside0.mk Q_BK266
         have BK267 := Aside0.mk Q_BK267
         have HB := Aside0.mk Q_HB
         have HO273 := Aside0.mk (Q_HO273 (hon 3 (by kernel_rfl)))
         have HO276 := Aside0.mk (Q_HO276 (hon 4 (by kernel_rfl)))
         have HO282 := Aside0.mk (Q_HO282 (hon 14 (by kernel_rfl)))
         refine goes_ Try.func9 (by kernel_rfl) rfl #[] (wanted_on rfl rfl rfl (e33.trans (by first | rfl | (simp [*]; done)))) rfl rfl (by first | (simp only [List.map_toArray, List.map_cons, List.map_nil, Act.eval, Array.getD_eq_getD_getElem?, Option.getD_some, e33]; done) | (simp only [List.map_toArray, List.map_cons, List.map_nil, Act.eval, Array.getD_eq_getD_getElem?, Option.getD_some, e33]; rfl)) ?_
         with_reducible refine (haywainlaw22_knows.calls kj2  t284 _ A25.out).mono ?_
         rintro e w38 ⟨rfl, hb⟩
         refine ⟨_, rfl, ?_⟩
         have n0_ := Aside0.mk (Kd.R_below (by (with_reducible repeat (first | apply Kd.R_alloc | apply Kd.R_drewN | apply Kd.R_drew)); exact HO273.out) hb)
         have n1_ := Aside0.mk (Kd.R_below (by (with_reducible repeat (first | apply Kd.R_alloc | apply Kd.R_drewN | apply Kd.R_drew)); exact HO276.out) hb)
         have n2_ := Aside0.mk (Kd.R_below (by (with_reducible repeat (first | apply Kd.R_alloc | apply Kd.R_drewN | apply Kd.R_drew)); exact HO282.out) hb)
         have n3_ := Aside0.mk (blk_below (g := gb266) (o := .cells #[.int .i64 a0_0, .int .i64 a0_1, .int .i64 a0_2, .int .i64 a0_3, .int .i64 a0_4, .int .i64 a0_5, .int .i64 a0_6, .string a0_7] 23 (0, 0)) (by (with_reducible repeat (first | refine blk_drewN ?_ _ | refine blk_drew ?_ | refine blk_alloc ?_ _)); exact BK266.out) hb)
         have n4_ := Aside0.mk (blk_below (g := gb267) (o := .cells #[.slice A1_0 l1_0.length c1_0] 26 (0, 0)) (by (with_reducible repeat (first | refine blk_drewN ?_ _ | refine blk_drew ?_ | refine blk_alloc ?_ _)); exact BK267.out) hb)
         have n5_ := Aside0.mk (below_step (by repeat (first | (with_reducible first | exact HB.out | apply below_alloc | apply pw_below_drewN | apply below_drew1 | refine below_set ?_ GE266.out | refine below_set ?_ GE267.out) | exact HB.out)) hb)
         clear HO273
         clear HO276
         clear HO282
         clear BK266
         clear BK267
         clear HB
         have HO273 := n0_
         have HO276 := n1_
         have HO282 := n2_
         have BK266 := n3_
         have BK267 := n4_
         have HB := n5_
         clear n0_ n1_ n2_ n3_ n4_ n5_
         (try clear hb)
         (try clear hb2)
         (try clear hk)
         (try clear hi)
         refine hK.out _ _ ⟨v272, v275, v281, m5_, (by rw [ha.out]; exact putSel_upk 19 hb_ rfl rfl rfl), (by (with_reducible repeat (first | refine blk_drewN ?_ _ | refine blk_drew ?_ | refine blk_alloc ?_ _)); exact BK266.out), (by (with_reducible repeat (first | refine blk_drewN ?_ _ | refine blk_drew ?_ | refine blk_alloc ?_ _)); exact BK267.out), (by repeat (first | (with_reducible first | exact HB.out | apply below_alloc | apply pw_below_drewN | apply below_drew1 | refine below_set ?_ GE266.out | refine below_set ?_ GE267.out) | exact HB.out)), fun _ => (by (with_reducible repeat (first | apply Kd.R_alloc | apply Kd.R_drewN | apply Kd.R_drew)); exact HO273.out), fun _ => (by (with_reducible repeat (first | apply Kd.R_alloc | apply Kd.R_drewN | apply Kd.R_drew)); exact HO276.out), fun _ => (by (with_reducible repeat (first | apply Kd.R_alloc | apply Kd.R_drewN | apply Kd.R_drew)); exact HO282.out), Q_X5_⟩
        refine steps_cons ?_ ?_
        ·rintro b a w' ⟨v272, v275, v281, m5_, ha, Q_BK266, Q_BK267, Q_HB, Q_HO273, Q_HO276, Q_HO282, Q_X5_⟩ hb_ hon hoff
         refine ⟨_, rfl, fun K hK => ?_⟩
         have e33 : a.tmps[33]? = some (.bool (t279 == t283)) := by rw [ha]; exact putSel_on (e := (18, 33, .bool (t279 == t283))) 18 rfl rfl (hon 18 (by kernel_rfl)) rfl
         have e34 : a.tmps[34]? = some (.bool t284) := by rw [ha]; exact putSel_on (e := (19, 34, .bool t284)) 19 rfl rfl (hon 19 (by kernel_rfl)) rfl
         replace ha := Aside0.mk ha
         have BK266 := Aside0.mk Q_BK266
         have BK267 := Aside0.mk Q_BK267
         have HB := Aside0.mk Q_HB
         have HO273 := Aside0.mk (Q_HO273 (hon 3 (by kernel_rfl)))
         have HO276 := Aside0.mk (Q_HO276 (hon 4 (by kernel_rfl)))
         have HO282 := Aside0.mk (Q_HO282 (hon 14 (by kernel_rfl)))
         refine value_ (w1 := w') (v := .bool t284) (by rfl) rfl ?_ ?_
         ·go_simp
          (try simp only [i64_w])
          try rfl
         refine hK.out _ _ ⟨v272, v275, v281, m5_, (by rw [ha.out]; exact putSel_upk 20 hb_ rfl rfl rfl), Q_BK266, Q_BK267, Q_HB, Q_HO273, Q_HO276, Q_HO282, Q_X5_⟩
        refine steps_cons ?_ ?_
        ·rintro b a w' ⟨v272, v275, v281, m5_, ha, Q_BK266, Q_BK267, Q_HB, Q_HO273, Q_HO276, Q_HO282, Q_X5_⟩ hb_ hon hoff
         refine ⟨_, rfl, fun K hK => ?_⟩
         have e35 : a.tmps[35]? = some (.bool t284) := by rw [ha]; exact putSel_on (e := (20, 35, .bool t284)) 20 rfl rfl (hon 20 (by kernel_rfl)) rfl
         replace ha := Aside0.mk ha
         have BK266 := Aside0.mk Q_BK266
         have BK267 := Aside0.mk Q_BK267
         have HB := Aside0.mk Q_HB
         have HO273 := Aside0.mk (Q_HO273 (hon 3 (by kernel_rfl)))
         have HO276 := Aside0.mk (Q_HO276 (hon 4 (by kernel_rfl)))
         have HO282 := Aside0.mk (Q_HO282 (hon 14 (by kernel_rfl)))
         refine value_ (w1 := w') (v := .bool t284) (by rfl) rfl ?_ ?_
         ·go_simp
          (try simp only [i64_w])
          try rfl
         refine hK.out _ _ ⟨v272, v275, v281, m5_, (by rw [ha.out]; exact putSel_upk 21 hb_ rfl rfl rfl), Q_BK266, Q_BK267, Q_HB, Q_HO273, Q_HO276, Q_HO282, Q_X5_⟩
        exact steps_nil
       rintro b a w38 hall ⟨v272, v275, v281, m5_, ha, Q_BK266, Q_BK267, Q_HB, Q_HO273, Q_HO276, Q_HO282, Q_X5_⟩
       clear BK266 BK267 HB
       have hb0_ := hall 0 (by kernel_rfl)
       have hb1_ := hall 1 (by kernel_rfl)
       have hb2_ := hall 2 (by kernel_rfl)
       have hb3_ := hall 3 (by kernel_rfl)
       have hb4_ := hall 4 (by kernel_rfl)
       have hb5_ := hall 5 (by kernel_rfl)
       have hb6_ := hall 6 (by kernel_rfl)
       have hb7_ := hall 7 (by kernel_rfl)
       have hb8_ := hall 8 (by kernel_rfl)
       have hb9_ := hall 9 (by kernel_rfl)
       have hb10_ := hall 10 (by kernel_rfl)
       have hb11_ := hall 11 (by kernel_rfl)
       have hb12_ := hall 12 (by kernel_rfl)
       have hb13_ := hall 13 (by kernel_rfl)
       have hb14_ := hall 14 (by kernel_rfl)
       have hb15_ := hall 15 (by kernel_rfl)
       have hb16_ := hall 16 (by kernel_rfl)
       have hb17_ := hall 17 (by kernel_rfl)
       have hb18_ := hall 18 (by kernel_rfl)
       have hb19_ := hall 19 (by kernel_rfl)
       have hb20_ := hall 20 (by kernel_rfl)
       have hb21_ := hall 21 (by kernel_rfl)
       subst ha
       obtain rfl := Q_X5_ hb5_
       simp only [putSel, hb0_, hb1_, hb2_, hb3_, hb4_, hb5_, hb6_, hb7_, hb8_, hb9_, hb10_, hb11_, hb12_, hb13_, hb14_, hb15_, hb16_, hb17_, hb18_, hb19_, hb20_, hb21_, if_true, Act.put, List.setIfInBounds_toArray, List.set_cons_zero, List.set_cons_succ]
       have BK266 := Aside0.mk Q_BK266
       clear Q_BK266
       have BK267 := Aside0.mk Q_BK267
       clear Q_BK267
       have HB := Aside0.mk Q_HB
       clear Q_HB
       have HO273 := Aside0.mk (Q_HO273 hb3_)
       clear Q_HO273
       have HO276 := Aside0.mk (Q_HO276 hb4_)
       clear Q_HO276
       have HO282 := Aside0.mk (Q_HO282 hb14_)
       clear Q_HO282
       clear hall hb0_ hb1_ hb2_ hb3_ hb4_ hb5_ hb6_ hb7_ hb8_ hb9_ hb10_ hb11_ hb12_ hb13_ hb14_ hb15_ hb16_ hb17_ hb18_ hb19_ hb20_ hb21_
       obtain ⟨Ao39, co39, eo39⟩ := Kd.R_slice HO276.out
       (first | subst eo39 | (injection eo39 with f1_ f2_ f3_; have f4_ := f1_.symm; have f5_ := f3_.symm; clear f1_ f2_ f3_; subst f4_; subst f5_))
       have p277 : 0 ≤ (0 : Int) := (by omega)
       have q277 : 0 < (t274.length : Int) := of_decide_eq_true (by first | (with_reducible assumption) | assumption)
       obtain ⟨ad277, e277, hx277_0, hx277_1, hx277_2, hx277_3, hx277_4, hx277_5, hx277_6, hx277_7⟩ := at_T31 (Kd.R_reads' HO276.out).2.2 0 p277 q277
       cases e277
       have qi277 : (0 < t274.length) = True := eq_true (by omega)
       (try rw [show ((0 : Int)).toNat = 0 from rfl] at hx277_0)
       (try rw [show 0 * 8 = 0 from rfl] at hx277_0)
       (try rw [Addr.add_zero'] at hx277_0)
       (try rw [show ((0 : Int)).toNat = 0 from rfl] at hx277_1)
       (try rw [show 0 * 8 = 0 from rfl] at hx277_1)
       (try rw [Addr.add_zero'] at hx277_1)
       (try rw [show ((0 : Int)).toNat = 0 from rfl] at hx277_2)
       (try rw [show 0 * 8 = 0 from rfl] at hx277_2)
       (try rw [Addr.add_zero'] at hx277_2)
       (try rw [show ((0 : Int)).toNat = 0 from rfl] at hx277_3)
       (try rw [show 0 * 8 = 0 from rfl] at hx277_3)
       (try rw [Addr.add_zero'] at hx277_3)
       (try rw [show ((0 : Int)).toNat = 0 from rfl] at hx277_4)
       (try rw [show 0 * 8 = 0 from rfl] at hx277_4)
       (try rw [Addr.add_zero'] at hx277_4)
       (try rw [show ((0 : Int)).toNat = 0 from rfl] at hx277_5)
       (try rw [show 0 * 8 = 0 from rfl] at hx277_5)
       (try rw [Addr.add_zero'] at hx277_5)
       (try rw [show ((0 : Int)).toNat = 0 from rfl] at hx277_6)
       (try rw [show 0 * 8 = 0 from rfl] at hx277_6)
       (try rw [Addr.add_zero'] at hx277_6)
       (try rw [show ((0 : Int)).toNat = 0 from rfl] at hx277_7)
       (try rw [show 0 * 8 = 0 from rfl] at hx277_7)
       (try rw [Addr.add_zero'] at hx277_7)
       replace p277 := eq_true p277
       replace q277 := eq_true q277
       try go_wp2
       go_ret
       exact ⟨by first | rfl | (simp [errW_none, errW_some] <;> rfl) | (simp [*, errW_none, errW_some] <;> rfl), by repeat (first | (with_reducible first | exact HB.out | apply below_alloc | apply pw_below_drewN | apply below_drew1 | refine below_set ?_ GE266.out | refine below_set ?_ GE267.out) | exact HB.out)⟩
      ·rw [if_neg c24] at H
       exact absurd H (by simp)
     ·rw [if_neg c20] at H
      exact absurd H (by simp)
    ·rw [if_neg c18] at H
     exact absurd H (by simp)

def okT23_NetRights (x : S23) : Prop := ((Lit.int .i64 x.f0).wf = true) ∧ ((Lit.int .i64 x.f1).wf = true) ∧ ((Lit.int .i64 x.f2).wf = true) ∧ ((Lit.int .i64 x.f3).wf = true) ∧ ((Lit.int .i64 x.f4).wf = true) ∧ ((Lit.int .i64 x.f5).wf = true) ∧ ((Lit.int .i64 x.f6).wf = true) ∧ (x.f7.size ≤ 140737488351232)
def okT26_NetRights (x : S26) : Prop := ((x.f0.length ≤ maxLen ∧ x.f0.length * 72 ≤ 140737488351232 ∧ ∀ a ∈ x.f0, okT23_NetRights a))
/-- THE ONE PURE STATEMENT of haywainlaw22_NetRights: yours. -/
def haywainlaw22_NetRights.Pure : Prop := ∀ (a0_0 : Int) (a0_1 : Int) (a0_2 : Int) (a0_3 : Int) (a0_4 : Int) (a0_5 : Int) (a0_6 : Int) (a0_7 : ByteArray) (l1_0 : List (S23)), (Lit.int .i64 a0_0).wf = true → (Lit.int .i64 a0_1).wf = true → (Lit.int .i64 a0_2).wf = true → (Lit.int .i64 a0_3).wf = true → (Lit.int .i64 a0_4).wf = true → (Lit.int .i64 a0_5).wf = true → (Lit.int .i64 a0_6).wf = true → a0_7.size ≤ 140737488351232 → (l1_0.length ≤ maxLen ∧ l1_0.length * 72 ≤ 140737488351232 ∧ ∀ a ∈ l1_0, okT23_NetRights a) → ∃ k, haywainlaw22_NetRights.f k a0_0 a0_1 a0_2 a0_3 a0_4 a0_5 a0_6 a0_7 l1_0 = some true

end Go.Proofs.Ytodjglekfamaaaa.PNet
