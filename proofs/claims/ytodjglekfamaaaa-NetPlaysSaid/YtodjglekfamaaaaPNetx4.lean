-- Printed for this claim by a turned copy of the print (wip/tools/patch.py); a text of this session, not of print.sh.
import Derived.Test.YtodjglekfamaaaaPNetx0
import Derived.Test.YtodjglekfamaaaaPNetx3
import Derived.Test.YtodjglekfamaaaaXCut3
namespace Go.Proofs.Ytodjglekfamaaaa.PNet
open Go.RowKit Go.Proofs.YtodjglekfamaaaaW.PrintWords Go.Proofs.YtodjglekfamaaaaW.PrintLast Go.Proofs.YtodjglekfamaaaaW.PrintMore
attribute [local go_sem] max2_int min2_int max_two min_two max_three min_three max_four min_four   -- for this text's walks alone
set_option linter.unusedVariables false
set_option linter.unusedSimpArgs false

/-! ### net_Give: function 17 (a text of ours) -/
def net_Give.f (k : Nat) (l0_0 : List (S23)) (a1 : Int) : Option ((List (S23)) × Int × Int × Int × Int × Int × Int × Int × ByteArray × Int) := (net_own.f k l0_0).bind fun t145 => (if t145.length < 1954687338268 then (if a1 < 0 then (some (t145, 0, 0, 0, 0, 0, 0, 0, (⟨#[]⟩ : ByteArray), 4)) else (if a1 ≥ (t145.length : Int) then (some (t145, 0, 0, 0, 0, 0, 0, 0, (⟨#[]⟩ : ByteArray), 4)) else (if 0 ≤ a1 then (if a1 < (t145.length : Int) then (if a1 ≤ (t145.length : Int) then (if 0 ≤ (wrap64 (a1 + 1)) then (if (wrap64 (a1 + 1)) ≤ (t145.length : Int) then (some ((t145.eraseIdx (a1 : Int).toNat), (rd_T23 t145 a1).f0, (rd_T23 t145 a1).f1, (rd_T23 t145 a1).f2, (rd_T23 t145 a1).f3, (rd_T23 t145 a1).f4, (rd_T23 t145 a1).f5, (rd_T23 t145 a1).f6, (rd_T23 t145 a1).f7, 0)) else (none)) else (none)) else (none)) else (none)) else (none)))) else (none))
theorem net_Give.mono : ∀ a0 a1 k, LeO (net_Give.f k a0 a1) (net_Give.f (k + 1) a0 a1) := by
 intro a0 a1 k
 unfold net_Give.f
 repeat' first
   | (with_reducible exact net_own.mono _ _)
   | (with_reducible exact LeO.refl _)
   | (with_reducible exact LeO.none _)
   | (with_reducible refine LeO.ite ?_ ?_)
   | (with_reducible refine LeO.bind ?_ (fun _ => ?_))
   | exact net_own.mono _ _
   | exact LeO.none _
   | refine LeO.ite ?_ ?_
   | refine LeO.bind ?_ (fun _ => ?_)
def net_Give.T5 : Bool × List (List Nat × List Nat) := (true, [([], []), ([0], [0]), ([], []), ([], []), ([1, 2, 3], [1, 2, 3]), ([], []), ([5], [5]), ([], []), ([7], [7]), ([6, 8], [6, 8]), ([4, 9], [4, 9]), ([0, 1, 2, 3, 4, 5, 6, 7, 8, 9, 10], []), ([11, 10, 10, 0, 1, 2, 3, 4, 5, 6, 7, 8, 9, 10], [10, 11])])
def net_Give.B5 : List Nat := [0, 1, 0, 0, 15, 0, 32, 0, 128, 480, 1023, 2047, 4095]
theorem net_Give.tab5 : rtab .any (opsOf Try.f17 5) = net_Give.T5 := by kernel_rfl
theorem net_Give.bits5 : waitsOk net_Give.T5.2 net_Give.B5 = true := by kernel_rfl
set_option maxHeartbeats 8000000 in
set_option maxRecDepth 100000 in
theorem net_Give.calls (k : Nat) (A0_0 : Option Addr) (c0_0 : Nat) (l0_0 : List (S23)) (a1 : Int) (r1 : List (S23)) (r2 : Int) (r3 : Int) (r4 : Int) (r5 : Int) (r6 : Int) (r7 : Int) (r8 : Int) (r9 : ByteArray) (r10 : Int) (w : World) (hr0_0 : Kd.C k23 w A0_0 l0_0.length l0_0) (hc0_0 : l0_0.length ≤ c0_0) (h : net_Give.f k l0_0 a1 = some (r1, r2, r3, r4, r5, r6, r7, r8, r9, r10)) :
  Calls Try.prog 17 #[.agg #[.slice A0_0 l0_0.length c0_0], .int .i64 a1] w fun e w' => ∃ v0_ : Value, e = .returned (.tuple #[.agg #[v0_], .agg #[.int .i64 r2, .int .i64 r3, .int .i64 r4, .int .i64 r5, .int .i64 r6, .int .i64 r7, .int .i64 r8, .string r9], .int .i64 r10]) ∧ Kd.V k23 23 w' w.heap.size (fun k_ => (w.heap.size ≤ k_)) v0_ r1 ∧ Below w.heap.size w w' := by
 have hu26 := Try.underlying26
 have hu23 := Try.underlying23
 have HR0_0 := Aside0.mk hr0_0
 have HC0_0 := Aside0.mk hc0_0
 clear hr0_0 hc0_0
 have HB := Aside0.mk (Below.refl w.heap.size w)
 have H : ((net_own.f k l0_0).bind fun t145 => (if t145.length < 1954687338268 then (if a1 < 0 then (some (t145, 0, 0, 0, 0, 0, 0, 0, (⟨#[]⟩ : ByteArray), 4)) else (if a1 ≥ (t145.length : Int) then (some (t145, 0, 0, 0, 0, 0, 0, 0, (⟨#[]⟩ : ByteArray), 4)) else (if 0 ≤ a1 then (if a1 < (t145.length : Int) then (if a1 ≤ (t145.length : Int) then (if 0 ≤ (wrap64 (a1 + 1)) then (if (wrap64 (a1 + 1)) ≤ (t145.length : Int) then (some ((t145.eraseIdx (a1 : Int).toNat), (rd_T23 t145 a1).f0, (rd_T23 t145 a1).f1, (rd_T23 t145 a1).f2, (rd_T23 t145 a1).f3, (rd_T23 t145 a1).f4, (rd_T23 t145 a1).f5, (rd_T23 t145 a1).f6, (rd_T23 t145 a1).f7, 0)) else (none)) else (none)) else (none)) else (none)) else (none)))) else (none))) = some (r1, r2, r3, r4, r5, r6, r7, r8, r9, r10) := h
 clear h
 replace H := Option.bind_eq_some_iff.mp H
 obtain ⟨t145, A30, H⟩ := H
 replace H : (if t145.length < 1954687338268 then (if a1 < 0 then (some (t145, 0, 0, 0, 0, 0, 0, 0, (⟨#[]⟩ : ByteArray), 4)) else (if a1 ≥ (t145.length : Int) then (some (t145, 0, 0, 0, 0, 0, 0, 0, (⟨#[]⟩ : ByteArray), 4)) else (if 0 ≤ a1 then (if a1 < (t145.length : Int) then (if a1 ≤ (t145.length : Int) then (if 0 ≤ (wrap64 (a1 + 1)) then (if (wrap64 (a1 + 1)) ≤ (t145.length : Int) then (some ((t145.eraseIdx (a1 : Int).toNat), (rd_T23 t145 a1).f0, (rd_T23 t145 a1).f1, (rd_T23 t145 a1).f2, (rd_T23 t145 a1).f3, (rd_T23 t145 a1).f4, (rd_T23 t145 a1).f5, (rd_T23 t145 a1).f6, (rd_T23 t145 a1).f7, 0)) else (none)) else (none)) else (none)) else (none)) else (none)))) else (none)) = some (r1, r2, r3, r4, r5, r6, r7, r8, r9, r10) := H
 have A3 := Aside0.mk A30
 clear A30
 have LIMA : Aside0 (t145.length < 1954687338268) := ⟨Classical.byContradiction fun hn => by rw [if_neg hn] at H; exact absurd H (by simp)⟩
 rw [if_pos LIMA.out] at H
 by_cases c4 : a1 < 0
 ·rw [if_pos c4] at H
  have c4b0 : decide (a1 < 0) = true := decide_eq_true c4
  clear c4
  simp only [Option.some.injEq, Prod.mk.injEq] at H
  obtain ⟨rfl, rfl, rfl, rfl, rfl, rfl, rfl, rfl, rfl, rfl⟩ := H
  go_enter Try.func17, Try.ntmps17
  go_wp2_with (first | ((with_reducible refine gate_dst (N := 2) rfl ?_); (try (refine gate_guard (by rfl) ?_; dsimp only)); refine box_event ?hg (N := 2) ?hd (cs := #[.slice A0_0 l0_0.length c0_0]) (t := 26) ?hr ?_; (case hd => rfl); (case hg => rfl); (case hr => first | (go_simp; done) | (go_simp; rfl)); intro gb142 hg w5 hbox hb; have n0_ := Aside0.mk (below_step (by repeat (first | (with_reducible first | exact HB.out | apply below_alloc | apply pw_below_drewN | apply below_drew1) | exact HB.out)) hb); have n1_ := Aside0.mk (hbox); have n2_ := Aside0.mk ((by rw [hg]; exact (below_size (by repeat (first | (with_reducible first | exact HB.out | apply below_alloc | apply pw_below_drewN | apply below_drew1) | exact HB.out))) : w.heap.size ≤ gb142)); have n3_ := Aside0.mk ((by rw [hg]; exact (below_size (by repeat (first | (with_reducible first | exact HB.out | apply below_alloc | apply pw_below_drewN | apply below_drew1) | exact HB.out))) : w.heap.size ≤ gb142)); clear HB; have HB := n0_; have BK142 := n1_; have GW142 := n2_; have GE142 := n3_; clear n0_ n1_ n2_ n3_; clear hb hbox hg) | ((with_reducible refine gate_dst (N := 4) rfl ?_); (try (refine gate_guard (by rfl) ?_; dsimp only)); refine box_event ?hg (N := 4) ?hd (cs := #[.slice none 0 0]) (t := 26) ?hr ?_; (case hd => rfl); (case hg => rfl); (case hr => first | (go_simp; done) | (go_simp; rfl)); intro gb143 hg w6 hbox hb; have n0_ := Aside0.mk (blk_below (g := gb142) (o := .cells #[.slice A0_0 l0_0.length c0_0] 26 (0, 0)) (by (with_reducible repeat (first | refine blk_drewN ?_ _ | refine blk_drew ?_ | refine blk_alloc ?_ _)); exact BK142.out) hb); have n1_ := Aside0.mk (below_step (by repeat (first | (with_reducible first | exact HB.out | apply below_alloc | apply pw_below_drewN | apply below_drew1 | refine below_set ?_ GE142.out) | exact HB.out)) hb); have n2_ := Aside0.mk (hbox); have n3_ := Aside0.mk ((by rw [hg]; exact (below_size (by repeat (first | (with_reducible first | exact HB.out | apply below_alloc | apply pw_below_drewN | apply below_drew1 | refine below_set ?_ GE142.out) | exact HB.out))) : w.heap.size ≤ gb143)); have n4_ := Aside0.mk ((by rw [hg]; exact (below_size (by repeat (first | (with_reducible first | exact HB.out | apply below_alloc | apply pw_below_drewN | apply below_drew1 | refine below_set ?_ GE142.out) | exact HB.out))) : w.heap.size ≤ gb143)); have n5_ := Aside0.mk ((by rw [hg]; exact Nat.ne_of_lt (blk_lt (g := gb142) (o := .cells #[.slice A0_0 l0_0.length c0_0] 26 (0, 0)) (by (with_reducible repeat (first | refine blk_drewN ?_ _ | refine blk_drew ?_ | refine blk_alloc ?_ _)); exact BK142.out)) : gb142 ≠ gb143)); have n6_ := Aside0.mk ((by rw [hg]; exact Nat.ne_of_gt (blk_lt (g := gb142) (o := .cells #[.slice A0_0 l0_0.length c0_0] 26 (0, 0)) (by (with_reducible repeat (first | refine blk_drewN ?_ _ | refine blk_drew ?_ | refine blk_alloc ?_ _)); exact BK142.out)) : gb143 ≠ gb142)); clear BK142; clear HB; have BK142 := n0_; have HB := n1_; have BK143 := n2_; have GW143 := n3_; have GE143 := n4_; have NB142_143 := n5_; have NB143_142 := n6_; clear n0_ n1_ n2_ n3_ n4_ n5_ n6_; clear hb hbox hg) | ((with_reducible refine gate_dst (N := 5) rfl ?_); (try (refine gate_guard (by rfl) ?_; dsimp only)); refine box_event ?hg (N := 5) ?hd (cs := #[.int .i64 0, .int .i64 0, .int .i64 0, .int .i64 0, .int .i64 0, .int .i64 0, .int .i64 0, .string (⟨#[]⟩ : ByteArray)]) (t := 23) ?hr ?_; (case hd => rfl); (case hg => rfl); (case hr => first | (go_simp; done) | (go_simp; rfl)); intro gb144 hg w7 hbox hb; have n0_ := Aside0.mk (blk_below (g := gb142) (o := .cells #[.slice A0_0 l0_0.length c0_0] 26 (0, 0)) (by (with_reducible repeat (first | refine blk_drewN ?_ _ | refine blk_drew ?_ | refine blk_alloc ?_ _)); exact BK142.out) hb); have n1_ := Aside0.mk (blk_below (g := gb143) (o := .cells #[.slice none 0 0] 26 (0, 0)) (by (with_reducible repeat (first | refine blk_drewN ?_ _ | refine blk_drew ?_ | refine blk_alloc ?_ _)); exact BK143.out) hb); have n2_ := Aside0.mk (below_step (by repeat (first | (with_reducible first | exact HB.out | apply below_alloc | apply pw_below_drewN | apply below_drew1 | refine below_set ?_ GE142.out | refine below_set ?_ GE143.out) | exact HB.out)) hb); have n3_ := Aside0.mk (hbox); have n4_ := Aside0.mk ((by rw [hg]; exact (below_size (by repeat (first | (with_reducible first | exact HB.out | apply below_alloc | apply pw_below_drewN | apply below_drew1 | refine below_set ?_ GE142.out | refine below_set ?_ GE143.out) | exact HB.out))) : w.heap.size ≤ gb144)); have n5_ := Aside0.mk ((by rw [hg]; exact (below_size (by repeat (first | (with_reducible first | exact HB.out | apply below_alloc | apply pw_below_drewN | apply below_drew1 | refine below_set ?_ GE142.out | refine below_set ?_ GE143.out) | exact HB.out))) : w.heap.size ≤ gb144)); have n6_ := Aside0.mk ((by rw [hg]; exact Nat.ne_of_lt (blk_lt (g := gb142) (o := .cells #[.slice A0_0 l0_0.length c0_0] 26 (0, 0)) (by (with_reducible repeat (first | refine blk_drewN ?_ _ | refine blk_drew ?_ | refine blk_alloc ?_ _)); exact BK142.out)) : gb142 ≠ gb144)); have n7_ := Aside0.mk ((by rw [hg]; exact Nat.ne_of_gt (blk_lt (g := gb142) (o := .cells #[.slice A0_0 l0_0.length c0_0] 26 (0, 0)) (by (with_reducible repeat (first | refine blk_drewN ?_ _ | refine blk_drew ?_ | refine blk_alloc ?_ _)); exact BK142.out)) : gb144 ≠ gb142)); have n8_ := Aside0.mk ((by rw [hg]; exact Nat.ne_of_lt (blk_lt (g := gb143) (o := .cells #[.slice none 0 0] 26 (0, 0)) (by (with_reducible repeat (first | refine blk_drewN ?_ _ | refine blk_drew ?_ | refine blk_alloc ?_ _)); exact BK143.out)) : gb143 ≠ gb144)); have n9_ := Aside0.mk ((by rw [hg]; exact Nat.ne_of_gt (blk_lt (g := gb143) (o := .cells #[.slice none 0 0] 26 (0, 0)) (by (with_reducible repeat (first | refine blk_drewN ?_ _ | refine blk_drew ?_ | refine blk_alloc ?_ _)); exact BK143.out)) : gb144 ≠ gb143)); clear BK142; clear BK143; clear HB; have BK142 := n0_; have BK143 := n1_; have HB := n2_; have BK144 := n3_; have GW144 := n4_; have GE144 := n5_; have NB142_144 := n6_; have NB144_142 := n7_; have NB143_144 := n8_; have NB144_143 := n9_; clear n0_ n1_ n2_ n3_ n4_ n5_ n6_ n7_ n8_ n9_; clear hb hbox hg; have hnb8 := NB142_143.out; have hnc8 := NB143_142.out; have hnb9 := NB142_144.out; have hnc9 := NB144_142.out; have hcz10_0 : w7.cell? ⟨gb142, 0, none⟩ = some (.slice A0_0 l0_0.length c0_0) := (blk_cell BK142.out 0).trans rfl; have hfz10_0 := blk_frozen BK142.out 0) | ((with_reducible refine gate_callee (f := 26) rfl ?_); refine goesL_ (some 9) rfl rfl Try.func26 (by kernel_rfl) rfl #[.agg #[.slice A0_0 l0_0.length c0_0]] rfl (by (try simp only [List.map_toArray, List.map_cons, List.map_nil]); first | done | rfl | (simp only [List.length_drop, List.length_take]; rfl)) ?_; (with_reducible refine (net_own.calls k _ _ l0_0 t145 _ ?side1 ?side2 A3.out).mono ?_); (case side1 => repeat (first | exact (Kd.C_below HR0_0.out HB.out) | (with_reducible refine Kd.C_alloc ?_ _) | (with_reducible refine Kd.C_drewN ?_ _) | (with_reducible refine Kd.C_drew ?_))); (case side2 => exact HC0_0.out); rintro e w11 ⟨v146, rfl, ho0, hb⟩; refine ⟨_, rfl, ?_⟩; have n0_ := Aside0.mk (Kd.R_lower (Kd.R_newB ho0 (g := gb144) (o := .cells #[.int .i64 0, .int .i64 0, .int .i64 0, .int .i64 0, .int .i64 0, .int .i64 0, .int .i64 0, .string (⟨#[]⟩ : ByteArray)] 23 (0, 0)) (by (with_reducible repeat (first | refine blk_drewN ?_ _ | refine blk_drew ?_ | refine blk_alloc ?_ _)); exact BK144.out)) (below_size (by repeat (first | (with_reducible first | exact HB.out | apply below_alloc | apply pw_below_drewN | apply below_drew1 | refine below_set ?_ GE142.out | refine below_set ?_ GE143.out | refine below_set ?_ GE144.out) | exact HB.out)))); have n1_ := Aside0.mk (blk_below (g := gb142) (o := .cells #[.slice A0_0 l0_0.length c0_0] 26 (0, 0)) (by (with_reducible repeat (first | refine blk_drewN ?_ _ | refine blk_drew ?_ | refine blk_alloc ?_ _)); exact BK142.out) hb); have n2_ := Aside0.mk (blk_below (g := gb143) (o := .cells #[.slice none 0 0] 26 (0, 0)) (by (with_reducible repeat (first | refine blk_drewN ?_ _ | refine blk_drew ?_ | refine blk_alloc ?_ _)); exact BK143.out) hb); have n3_ := Aside0.mk (blk_below (g := gb144) (o := .cells #[.int .i64 0, .int .i64 0, .int .i64 0, .int .i64 0, .int .i64 0, .int .i64 0, .int .i64 0, .string (⟨#[]⟩ : ByteArray)] 23 (0, 0)) (by (with_reducible repeat (first | refine blk_drewN ?_ _ | refine blk_drew ?_ | refine blk_alloc ?_ _)); exact BK144.out) hb); have n4_ := Aside0.mk (below_step (by repeat (first | (with_reducible first | exact HB.out | apply below_alloc | apply pw_below_drewN | apply below_drew1 | refine below_set ?_ GE142.out | refine below_set ?_ GE143.out | refine below_set ?_ GE144.out) | exact HB.out)) hb); clear BK142; clear BK143; clear BK144; clear HB; have HO147 := n0_; have BK142 := n1_; have BK143 := n2_; have BK144 := n3_; have HB := n4_; clear n0_ n1_ n2_ n3_ n4_; (try clear hb); (try clear hb2); (try clear hk); (try clear hi); (try clear ho0); obtain ⟨Ao12, co12, eo12⟩ := Kd.R_slice HO147.out; subst eo12; have hcz13_0 : w11.cell? ⟨gb142, 0, none⟩ = some (.slice A0_0 l0_0.length c0_0) := (blk_cell BK142.out 0).trans rfl; have hfz13_0 := blk_frozen BK142.out 0; have hnb14 := NB143_144.out; have hnc14 := NB144_143.out; have hcz15_0 : w11.cell? ⟨gb143, 0, none⟩ = some (.slice none 0 0) := (blk_cell BK143.out 0).trans rfl; have hfz15_0 := blk_frozen BK143.out 0; have hcz16_0 : w11.cell? ⟨gb144, 0, none⟩ = some (.int .i64 0) := (blk_cell BK144.out 0).trans rfl; have hcz16_1 : w11.cell? ⟨gb144, 1, none⟩ = some (.int .i64 0) := (blk_cell BK144.out 1).trans rfl; have hcz16_2 : w11.cell? ⟨gb144, 2, none⟩ = some (.int .i64 0) := (blk_cell BK144.out 2).trans rfl; have hcz16_3 : w11.cell? ⟨gb144, 3, none⟩ = some (.int .i64 0) := (blk_cell BK144.out 3).trans rfl; have hcz16_4 : w11.cell? ⟨gb144, 4, none⟩ = some (.int .i64 0) := (blk_cell BK144.out 4).trans rfl; have hcz16_5 : w11.cell? ⟨gb144, 5, none⟩ = some (.int .i64 0) := (blk_cell BK144.out 5).trans rfl; have hcz16_6 : w11.cell? ⟨gb144, 6, none⟩ = some (.int .i64 0) := (blk_cell BK144.out 6).trans rfl; have hcz16_7 : w11.cell? ⟨gb144, 7, none⟩ = some (.string (⟨#[]⟩ : ByteArray)) := (blk_cell BK144.out 7).trans rfl; have hfz16_0 := blk_frozen BK144.out 0; have hfz16_1 := blk_frozen BK144.out 1; have hfz16_2 := blk_frozen BK144.out 2; have hfz16_3 := blk_frozen BK144.out 3; have hfz16_4 := blk_frozen BK144.out 4; have hfz16_5 := blk_frozen BK144.out 5; have hfz16_6 := blk_frozen BK144.out 6; have hfz16_7 := blk_frozen BK144.out 7))
  refine bodyPost_ret (results_list (rs := [.cell 4 26, .cell 5 23, .tmp 6]) rfl (by simp) (.cell gb143 26 #[.slice Ao12 t145.length co12] (0, 0) _ rfl (by (with_reducible repeat (first | refine blk_drewN ?_ _ | refine blk_drew ?_ | refine blk_alloc ?_ _)); refine blk_far ?_ NB143_144.out _; (with_reducible repeat (first | refine blk_drewN ?_ _ | refine blk_drew ?_ | refine blk_alloc ?_ _)); refine blk_far ?_ NB143_144.out _; (with_reducible repeat (first | refine blk_drewN ?_ _ | refine blk_drew ?_ | refine blk_alloc ?_ _)); refine blk_far ?_ NB143_144.out _; (with_reducible repeat (first | refine blk_drewN ?_ _ | refine blk_drew ?_ | refine blk_alloc ?_ _)); refine blk_far ?_ NB143_144.out _; (with_reducible repeat (first | refine blk_drewN ?_ _ | refine blk_drew ?_ | refine blk_alloc ?_ _)); refine blk_far ?_ NB143_144.out _; (with_reducible repeat (first | refine blk_drewN ?_ _ | refine blk_drew ?_ | refine blk_alloc ?_ _)); refine blk_far ?_ NB143_144.out _; (with_reducible repeat (first | refine blk_drewN ?_ _ | refine blk_drew ?_ | refine blk_alloc ?_ _)); refine blk_far ?_ NB143_144.out _; (with_reducible repeat (first | refine blk_drewN ?_ _ | refine blk_drew ?_ | refine blk_alloc ?_ _)); refine blk_far ?_ NB143_144.out _; (with_reducible repeat (first | refine blk_drewN ?_ _ | refine blk_drew ?_ | refine blk_alloc ?_ _)); refine blk_put (cs := #[.slice none 0 0]) ?_ 0 _ rfl; (with_reducible repeat (first | refine blk_drewN ?_ _ | refine blk_drew ?_ | refine blk_alloc ?_ _)); refine blk_far ?_ NB143_142.out _; (with_reducible repeat (first | refine blk_drewN ?_ _ | refine blk_drew ?_ | refine blk_alloc ?_ _)); exact BK143.out) Try.underlying26 rfl (by kernel_rfl) (.cell gb144 23 #[.int .i64 0, .int .i64 0, .int .i64 0, .int .i64 0, .int .i64 0, .int .i64 0, .int .i64 0, .string (⟨#[]⟩ : ByteArray)] (0, 0) _ rfl (by (with_reducible repeat (first | refine blk_drewN ?_ _ | refine blk_drew ?_ | refine blk_alloc ?_ _)); refine blk_put (cs := #[.int .i64 0, .int .i64 0, .int .i64 0, .int .i64 0, .int .i64 0, .int .i64 0, .int .i64 0, .string (⟨#[]⟩ : ByteArray)]) ?_ 7 _ rfl; (with_reducible repeat (first | refine blk_drewN ?_ _ | refine blk_drew ?_ | refine blk_alloc ?_ _)); refine blk_put (cs := #[.int .i64 0, .int .i64 0, .int .i64 0, .int .i64 0, .int .i64 0, .int .i64 0, .int .i64 0, .string (⟨#[]⟩ : ByteArray)]) ?_ 6 _ rfl; (with_reducible repeat (first | refine blk_drewN ?_ _ | refine blk_drew ?_ | refine blk_alloc ?_ _)); refine blk_put (cs := #[.int .i64 0, .int .i64 0, .int .i64 0, .int .i64 0, .int .i64 0, .int .i64 0, .int .i64 0, .string (⟨#[]⟩ : ByteArray)]) ?_ 5 _ rfl; (with_reducible repeat (first | refine blk_drewN ?_ _ | refine blk_drew ?_ | refine blk_alloc ?_ _)); refine blk_put (cs := #[.int .i64 0, .int .i64 0, .int .i64 0, .int .i64 0, .int .i64 0, .int .i64 0, .int .i64 0, .string (⟨#[]⟩ : ByteArray)]) ?_ 4 _ rfl; (with_reducible repeat (first | refine blk_drewN ?_ _ | refine blk_drew ?_ | refine blk_alloc ?_ _)); refine blk_put (cs := #[.int .i64 0, .int .i64 0, .int .i64 0, .int .i64 0, .int .i64 0, .int .i64 0, .int .i64 0, .string (⟨#[]⟩ : ByteArray)]) ?_ 3 _ rfl; (with_reducible repeat (first | refine blk_drewN ?_ _ | refine blk_drew ?_ | refine blk_alloc ?_ _)); refine blk_put (cs := #[.int .i64 0, .int .i64 0, .int .i64 0, .int .i64 0, .int .i64 0, .int .i64 0, .int .i64 0, .string (⟨#[]⟩ : ByteArray)]) ?_ 2 _ rfl; (with_reducible repeat (first | refine blk_drewN ?_ _ | refine blk_drew ?_ | refine blk_alloc ?_ _)); refine blk_put (cs := #[.int .i64 0, .int .i64 0, .int .i64 0, .int .i64 0, .int .i64 0, .int .i64 0, .int .i64 0, .string (⟨#[]⟩ : ByteArray)]) ?_ 1 _ rfl; (with_reducible repeat (first | refine blk_drewN ?_ _ | refine blk_drew ?_ | refine blk_alloc ?_ _)); refine blk_put (cs := #[.int .i64 0, .int .i64 0, .int .i64 0, .int .i64 0, .int .i64 0, .int .i64 0, .int .i64 0, .string (⟨#[]⟩ : ByteArray)]) ?_ 0 _ rfl; (with_reducible repeat (first | refine blk_drewN ?_ _ | refine blk_drew ?_ | refine blk_alloc ?_ _)); refine blk_far ?_ NB144_143.out _; (with_reducible repeat (first | refine blk_drewN ?_ _ | refine blk_drew ?_ | refine blk_alloc ?_ _)); refine blk_far ?_ NB144_142.out _; (with_reducible repeat (first | refine blk_drewN ?_ _ | refine blk_drew ?_ | refine blk_alloc ?_ _)); exact BK144.out) Try.underlying23 rfl (by kernel_rfl) (.tmp .nil)))) rfl ?_
  exact ⟨_, by first | rfl | (simp [errW_none, errW_some] <;> rfl) | (simp [*, errW_none, errW_some] <;> rfl), Kd.V_mono (Kd.R_V (base := w.heap.size) (Kd.R_bound (ok := fun _ => True) (by (with_reducible repeat (first | apply Kd.R_alloc | apply Kd.R_drewN | apply Kd.R_drew)); exact Kd.R_mono (Kd.R_far (p := ⟨gb144, 7, none⟩) (Kd.R_far (p := ⟨gb144, 6, none⟩) (Kd.R_far (p := ⟨gb144, 5, none⟩) (Kd.R_far (p := ⟨gb144, 4, none⟩) (Kd.R_far (p := ⟨gb144, 3, none⟩) (Kd.R_far (p := ⟨gb144, 2, none⟩) (Kd.R_far (p := ⟨gb144, 1, none⟩) (Kd.R_far (p := ⟨gb144, 0, none⟩) (Kd.R_far (p := ⟨gb143, 0, none⟩) (Kd.R_far (p := ⟨gb142, 0, none⟩) (Kd.R_mono (Kd.R_types (Kd.R_types HO147.out BK142.out (by decide)) BK143.out (by decide)) (fun k_ hk => (⟨hk, hk.1.1.2⟩ : _ ∧ k_ ≠ gb144))) (fun _ hk => hk.1.1.2) (.slice Ao12 t145.length co12)) (fun _ hk => hk.1.2) (.slice Ao12 t145.length co12)) (fun _ hk => hk.2) (.int .i64 0)) (fun _ hk => hk.2) (.int .i64 0)) (fun _ hk => hk.2) (.int .i64 0)) (fun _ hk => hk.2) (.int .i64 0)) (fun _ hk => hk.2) (.int .i64 0)) (fun _ hk => hk.2) (.int .i64 0)) (fun _ hk => hk.2) (.int .i64 0)) (fun _ hk => hk.2) (.string (⟨#[]⟩ : ByteArray))) (fun _ hk => trivial)))) (fun k_ hk => hk.2.1), by repeat (first | (with_reducible first | exact HB.out | apply below_alloc | apply pw_below_drewN | apply below_drew1 | refine below_set ?_ GE142.out | refine below_set ?_ GE143.out | refine below_set ?_ GE144.out) | exact HB.out)⟩
 ·rw [if_neg c4] at H
  have c4b0 : decide (a1 < 0) = false := decide_eq_false c4
  clear c4
  by_cases c17 : a1 ≥ (t145.length : Int)
  ·rw [if_pos c17] at H
   have c17b0 : decide ((t145.length : Int) ≤ a1) = true := decide_eq_true c17
   clear c17
   simp only [Option.some.injEq, Prod.mk.injEq] at H
   obtain ⟨rfl, rfl, rfl, rfl, rfl, rfl, rfl, rfl, rfl, rfl⟩ := H
   go_enter Try.func17, Try.ntmps17
   go_wp2_with (first | ((with_reducible refine gate_dst (N := 2) rfl ?_); (try (refine gate_guard (by rfl) ?_; dsimp only)); refine box_event ?hg (N := 2) ?hd (cs := #[.slice A0_0 l0_0.length c0_0]) (t := 26) ?hr ?_; (case hd => rfl); (case hg => rfl); (case hr => first | (go_simp; done) | (go_simp; rfl)); intro gb142 hg w18 hbox hb; have n0_ := Aside0.mk (below_step (by repeat (first | (with_reducible first | exact HB.out | apply below_alloc | apply pw_below_drewN | apply below_drew1) | exact HB.out)) hb); have n1_ := Aside0.mk (hbox); have n2_ := Aside0.mk ((by rw [hg]; exact (below_size (by repeat (first | (with_reducible first | exact HB.out | apply below_alloc | apply pw_below_drewN | apply below_drew1) | exact HB.out))) : w.heap.size ≤ gb142)); have n3_ := Aside0.mk ((by rw [hg]; exact (below_size (by repeat (first | (with_reducible first | exact HB.out | apply below_alloc | apply pw_below_drewN | apply below_drew1) | exact HB.out))) : w.heap.size ≤ gb142)); clear HB; have HB := n0_; have BK142 := n1_; have GW142 := n2_; have GE142 := n3_; clear n0_ n1_ n2_ n3_; clear hb hbox hg) | ((with_reducible refine gate_dst (N := 4) rfl ?_); (try (refine gate_guard (by rfl) ?_; dsimp only)); refine box_event ?hg (N := 4) ?hd (cs := #[.slice none 0 0]) (t := 26) ?hr ?_; (case hd => rfl); (case hg => rfl); (case hr => first | (go_simp; done) | (go_simp; rfl)); intro gb143 hg w19 hbox hb; have n0_ := Aside0.mk (blk_below (g := gb142) (o := .cells #[.slice A0_0 l0_0.length c0_0] 26 (0, 0)) (by (with_reducible repeat (first | refine blk_drewN ?_ _ | refine blk_drew ?_ | refine blk_alloc ?_ _)); exact BK142.out) hb); have n1_ := Aside0.mk (below_step (by repeat (first | (with_reducible first | exact HB.out | apply below_alloc | apply pw_below_drewN | apply below_drew1 | refine below_set ?_ GE142.out) | exact HB.out)) hb); have n2_ := Aside0.mk (hbox); have n3_ := Aside0.mk ((by rw [hg]; exact (below_size (by repeat (first | (with_reducible first | exact HB.out | apply below_alloc | apply pw_below_drewN | apply below_drew1 | refine below_set ?_ GE142.out) | exact HB.out))) : w.heap.size ≤ gb143)); have n4_ := Aside0.mk ((by rw [hg]; exact (below_size (by repeat (first | (with_reducible first | exact HB.out | apply below_alloc | apply pw_below_drewN | apply below_drew1 | refine below_set ?_ GE142.out) | exact HB.out))) : w.heap.size ≤ gb143)); have n5_ := Aside0.mk ((by rw [hg]; exact Nat.ne_of_lt (blk_lt (g := gb142) (o := .cells #[.slice A0_0 l0_0.length c0_0] 26 (0, 0)) (by (with_reducible repeat (first | refine blk_drewN ?_ _ | refine blk_drew ?_ | refine blk_alloc ?_ _)); exact BK142.out)) : gb142 ≠ gb143)); have n6_ := Aside0.mk ((by rw [hg]; exact Nat.ne_of_gt (blk_lt (g := gb142) (o := .cells #[.slice A0_0 l0_0.length c0_0] 26 (0, 0)) (by (with_reducible repeat (first | refine blk_drewN ?_ _ | refine blk_drew ?_ | refine blk_alloc ?_ _)); exact BK142.out)) : gb143 ≠ gb142)); clear BK142; clear HB; have BK142 := n0_; have HB := n1_; have BK143 := n2_; have GW143 := n3_; have GE143 := n4_; have NB142_143 := n5_; have NB143_142 := n6_; clear n0_ n1_ n2_ n3_ n4_ n5_ n6_; clear hb hbox hg) | ((with_reducible refine gate_dst (N := 5) rfl ?_); (try (refine gate_guard (by rfl) ?_; dsimp only)); refine box_event ?hg (N := 5) ?hd (cs := #[.int .i64 0, .int .i64 0, .int .i64 0, .int .i64 0, .int .i64 0, .int .i64 0, .int .i64 0, .string (⟨#[]⟩ : ByteArray)]) (t := 23) ?hr ?_; (case hd => rfl); (case hg => rfl); (case hr => first | (go_simp; done) | (go_simp; rfl)); intro gb144 hg w20 hbox hb; have n0_ := Aside0.mk (blk_below (g := gb142) (o := .cells #[.slice A0_0 l0_0.length c0_0] 26 (0, 0)) (by (with_reducible repeat (first | refine blk_drewN ?_ _ | refine blk_drew ?_ | refine blk_alloc ?_ _)); exact BK142.out) hb); have n1_ := Aside0.mk (blk_below (g := gb143) (o := .cells #[.slice none 0 0] 26 (0, 0)) (by (with_reducible repeat (first | refine blk_drewN ?_ _ | refine blk_drew ?_ | refine blk_alloc ?_ _)); exact BK143.out) hb); have n2_ := Aside0.mk (below_step (by repeat (first | (with_reducible first | exact HB.out | apply below_alloc | apply pw_below_drewN | apply below_drew1 | refine below_set ?_ GE142.out | refine below_set ?_ GE143.out) | exact HB.out)) hb); have n3_ := Aside0.mk (hbox); have n4_ := Aside0.mk ((by rw [hg]; exact (below_size (by repeat (first | (with_reducible first | exact HB.out | apply below_alloc | apply pw_below_drewN | apply below_drew1 | refine below_set ?_ GE142.out | refine below_set ?_ GE143.out) | exact HB.out))) : w.heap.size ≤ gb144)); have n5_ := Aside0.mk ((by rw [hg]; exact (below_size (by repeat (first | (with_reducible first | exact HB.out | apply below_alloc | apply pw_below_drewN | apply below_drew1 | refine below_set ?_ GE142.out | refine below_set ?_ GE143.out) | exact HB.out))) : w.heap.size ≤ gb144)); have n6_ := Aside0.mk ((by rw [hg]; exact Nat.ne_of_lt (blk_lt (g := gb142) (o := .cells #[.slice A0_0 l0_0.length c0_0] 26 (0, 0)) (by (with_reducible repeat (first | refine blk_drewN ?_ _ | refine blk_drew ?_ | refine blk_alloc ?_ _)); exact BK142.out)) : gb142 ≠ gb144)); have n7_ := Aside0.mk ((by rw [hg]; exact Nat.ne_of_gt (blk_lt (g := gb142) (o := .cells #[.slice A0_0 l0_0.length c0_0] 26 (0, 0)) (by (with_reducible repeat (first | refine blk_drewN ?_ _ | refine blk_drew ?_ | refine blk_alloc ?_ _)); exact BK142.out)) : gb144 ≠ gb142)); have n8_ := Aside0.mk ((by rw [hg]; exact Nat.ne_of_lt (blk_lt (g := gb143) (o := .cells #[.slice none 0 0] 26 (0, 0)) (by (with_reducible repeat (first | refine blk_drewN ?_ _ | refine blk_drew ?_ | refine blk_alloc ?_ _)); exact BK143.out)) : gb143 ≠ gb144)); have n9_ := Aside0.mk ((by rw [hg]; exact Nat.ne_of_gt (blk_lt (g := gb143) (o := .cells #[.slice none 0 0] 26 (0, 0)) (by (with_reducible repeat (first | refine blk_drewN ?_ _ | refine blk_drew ?_ | refine blk_alloc ?_ _)); exact BK143.out)) : gb144 ≠ gb143)); clear BK142; clear BK143; clear HB; have BK142 := n0_; have BK143 := n1_; have HB := n2_; have BK144 := n3_; have GW144 := n4_; have GE144 := n5_; have NB142_144 := n6_; have NB144_142 := n7_; have NB143_144 := n8_; have NB144_143 := n9_; clear n0_ n1_ n2_ n3_ n4_ n5_ n6_ n7_ n8_ n9_; clear hb hbox hg; have hnb21 := NB142_143.out; have hnc21 := NB143_142.out; have hnb22 := NB142_144.out; have hnc22 := NB144_142.out; have hcz23_0 : w20.cell? ⟨gb142, 0, none⟩ = some (.slice A0_0 l0_0.length c0_0) := (blk_cell BK142.out 0).trans rfl; have hfz23_0 := blk_frozen BK142.out 0) | ((with_reducible refine gate_callee (f := 26) rfl ?_); refine goesL_ (some 9) rfl rfl Try.func26 (by kernel_rfl) rfl #[.agg #[.slice A0_0 l0_0.length c0_0]] rfl (by (try simp only [List.map_toArray, List.map_cons, List.map_nil]); first | done | rfl | (simp only [List.length_drop, List.length_take]; rfl)) ?_; (with_reducible refine (net_own.calls k _ _ l0_0 t145 _ ?side1 ?side2 A3.out).mono ?_); (case side1 => repeat (first | exact (Kd.C_below HR0_0.out HB.out) | (with_reducible refine Kd.C_alloc ?_ _) | (with_reducible refine Kd.C_drewN ?_ _) | (with_reducible refine Kd.C_drew ?_))); (case side2 => exact HC0_0.out); rintro e w24 ⟨v146, rfl, ho0, hb⟩; refine ⟨_, rfl, ?_⟩; have n0_ := Aside0.mk (Kd.R_lower (Kd.R_newB ho0 (g := gb144) (o := .cells #[.int .i64 0, .int .i64 0, .int .i64 0, .int .i64 0, .int .i64 0, .int .i64 0, .int .i64 0, .string (⟨#[]⟩ : ByteArray)] 23 (0, 0)) (by (with_reducible repeat (first | refine blk_drewN ?_ _ | refine blk_drew ?_ | refine blk_alloc ?_ _)); exact BK144.out)) (below_size (by repeat (first | (with_reducible first | exact HB.out | apply below_alloc | apply pw_below_drewN | apply below_drew1 | refine below_set ?_ GE142.out | refine below_set ?_ GE143.out | refine below_set ?_ GE144.out) | exact HB.out)))); have n1_ := Aside0.mk (blk_below (g := gb142) (o := .cells #[.slice A0_0 l0_0.length c0_0] 26 (0, 0)) (by (with_reducible repeat (first | refine blk_drewN ?_ _ | refine blk_drew ?_ | refine blk_alloc ?_ _)); exact BK142.out) hb); have n2_ := Aside0.mk (blk_below (g := gb143) (o := .cells #[.slice none 0 0] 26 (0, 0)) (by (with_reducible repeat (first | refine blk_drewN ?_ _ | refine blk_drew ?_ | refine blk_alloc ?_ _)); exact BK143.out) hb); have n3_ := Aside0.mk (blk_below (g := gb144) (o := .cells #[.int .i64 0, .int .i64 0, .int .i64 0, .int .i64 0, .int .i64 0, .int .i64 0, .int .i64 0, .string (⟨#[]⟩ : ByteArray)] 23 (0, 0)) (by (with_reducible repeat (first | refine blk_drewN ?_ _ | refine blk_drew ?_ | refine blk_alloc ?_ _)); exact BK144.out) hb); have n4_ := Aside0.mk (below_step (by repeat (first | (with_reducible first | exact HB.out | apply below_alloc | apply pw_below_drewN | apply below_drew1 | refine below_set ?_ GE142.out | refine below_set ?_ GE143.out | refine below_set ?_ GE144.out) | exact HB.out)) hb); clear BK142; clear BK143; clear BK144; clear HB; have HO147 := n0_; have BK142 := n1_; have BK143 := n2_; have BK144 := n3_; have HB := n4_; clear n0_ n1_ n2_ n3_ n4_; (try clear hb); (try clear hb2); (try clear hk); (try clear hi); (try clear ho0); obtain ⟨Ao25, co25, eo25⟩ := Kd.R_slice HO147.out; subst eo25; have hcz26_0 : w24.cell? ⟨gb142, 0, none⟩ = some (.slice A0_0 l0_0.length c0_0) := (blk_cell BK142.out 0).trans rfl; have hfz26_0 := blk_frozen BK142.out 0; have hnb27 := NB143_144.out; have hnc27 := NB144_143.out; have hcz28_0 : w24.cell? ⟨gb143, 0, none⟩ = some (.slice none 0 0) := (blk_cell BK143.out 0).trans rfl; have hfz28_0 := blk_frozen BK143.out 0; have hcz29_0 : w24.cell? ⟨gb144, 0, none⟩ = some (.int .i64 0) := (blk_cell BK144.out 0).trans rfl; have hcz29_1 : w24.cell? ⟨gb144, 1, none⟩ = some (.int .i64 0) := (blk_cell BK144.out 1).trans rfl; have hcz29_2 : w24.cell? ⟨gb144, 2, none⟩ = some (.int .i64 0) := (blk_cell BK144.out 2).trans rfl; have hcz29_3 : w24.cell? ⟨gb144, 3, none⟩ = some (.int .i64 0) := (blk_cell BK144.out 3).trans rfl; have hcz29_4 : w24.cell? ⟨gb144, 4, none⟩ = some (.int .i64 0) := (blk_cell BK144.out 4).trans rfl; have hcz29_5 : w24.cell? ⟨gb144, 5, none⟩ = some (.int .i64 0) := (blk_cell BK144.out 5).trans rfl; have hcz29_6 : w24.cell? ⟨gb144, 6, none⟩ = some (.int .i64 0) := (blk_cell BK144.out 6).trans rfl; have hcz29_7 : w24.cell? ⟨gb144, 7, none⟩ = some (.string (⟨#[]⟩ : ByteArray)) := (blk_cell BK144.out 7).trans rfl; have hfz29_0 := blk_frozen BK144.out 0; have hfz29_1 := blk_frozen BK144.out 1; have hfz29_2 := blk_frozen BK144.out 2; have hfz29_3 := blk_frozen BK144.out 3; have hfz29_4 := blk_frozen BK144.out 4; have hfz29_5 := blk_frozen BK144.out 5; have hfz29_6 := blk_frozen BK144.out 6; have hfz29_7 := blk_frozen BK144.out 7))
   refine bodyPost_ret (results_list (rs := [.cell 4 26, .cell 5 23, .tmp 6]) rfl (by simp) (.cell gb143 26 #[.slice Ao25 t145.length co25] (0, 0) _ rfl (by (with_reducible repeat (first | refine blk_drewN ?_ _ | refine blk_drew ?_ | refine blk_alloc ?_ _)); refine blk_far ?_ NB143_144.out _; (with_reducible repeat (first | refine blk_drewN ?_ _ | refine blk_drew ?_ | refine blk_alloc ?_ _)); refine blk_far ?_ NB143_144.out _; (with_reducible repeat (first | refine blk_drewN ?_ _ | refine blk_drew ?_ | refine blk_alloc ?_ _)); refine blk_far ?_ NB143_144.out _; (with_reducible repeat (first | refine blk_drewN ?_ _ | refine blk_drew ?_ | refine blk_alloc ?_ _)); refine blk_far ?_ NB143_144.out _; (with_reducible repeat (first | refine blk_drewN ?_ _ | refine blk_drew ?_ | refine blk_alloc ?_ _)); refine blk_far ?_ NB143_144.out _; (with_reducible repeat (first | refine blk_drewN ?_ _ | refine blk_drew ?_ | refine blk_alloc ?_ _)); refine blk_far ?_ NB143_144.out _; (with_reducible repeat (first | refine blk_drewN ?_ _ | refine blk_drew ?_ | refine blk_alloc ?_ _)); refine blk_far ?_ NB143_144.out _; (with_reducible repeat (first | refine blk_drewN ?_ _ | refine blk_drew ?_ | refine blk_alloc ?_ _)); refine blk_far ?_ NB143_144.out _; (with_reducible repeat (first | refine blk_drewN ?_ _ | refine blk_drew ?_ | refine blk_alloc ?_ _)); refine blk_put (cs := #[.slice none 0 0]) ?_ 0 _ rfl; (with_reducible repeat (first | refine blk_drewN ?_ _ | refine blk_drew ?_ | refine blk_alloc ?_ _)); refine blk_far ?_ NB143_142.out _; (with_reducible repeat (first | refine blk_drewN ?_ _ | refine blk_drew ?_ | refine blk_alloc ?_ _)); exact BK143.out) Try.underlying26 rfl (by kernel_rfl) (.cell gb144 23 #[.int .i64 0, .int .i64 0, .int .i64 0, .int .i64 0, .int .i64 0, .int .i64 0, .int .i64 0, .string (⟨#[]⟩ : ByteArray)] (0, 0) _ rfl (by (with_reducible repeat (first | refine blk_drewN ?_ _ | refine blk_drew ?_ | refine blk_alloc ?_ _)); refine blk_put (cs := #[.int .i64 0, .int .i64 0, .int .i64 0, .int .i64 0, .int .i64 0, .int .i64 0, .int .i64 0, .string (⟨#[]⟩ : ByteArray)]) ?_ 7 _ rfl; (with_reducible repeat (first | refine blk_drewN ?_ _ | refine blk_drew ?_ | refine blk_alloc ?_ _)); refine blk_put (cs := #[.int .i64 0, .int .i64 0, .int .i64 0, .int .i64 0, .int .i64 0, .int .i64 0, .int .i64 0, .string (⟨#[]⟩ : ByteArray)]) ?_ 6 _ rfl; (with_reducible repeat (first | refine blk_drewN ?_ _ | refine blk_drew ?_ | refine blk_alloc ?_ _)); refine blk_put (cs := #[.int .i64 0, .int .i64 0, .int .i64 0, .int .i64 0, .int .i64 0, .int .i64 0, .int .i64 0, .string (⟨#[]⟩ : ByteArray)]) ?_ 5 _ rfl; (with_reducible repeat (first | refine blk_drewN ?_ _ | refine blk_drew ?_ | refine blk_alloc ?_ _)); refine blk_put (cs := #[.int .i64 0, .int .i64 0, .int .i64 0, .int .i64 0, .int .i64 0, .int .i64 0, .int .i64 0, .string (⟨#[]⟩ : ByteArray)]) ?_ 4 _ rfl; (with_reducible repeat (first | refine blk_drewN ?_ _ | refine blk_drew ?_ | refine blk_alloc ?_ _)); refine blk_put (cs := #[.int .i64 0, .int .i64 0, .int .i64 0, .int .i64 0, .int .i64 0, .int .i64 0, .int .i64 0, .string (⟨#[]⟩ : ByteArray)]) ?_ 3 _ rfl; (with_reducible repeat (first | refine blk_drewN ?_ _ | refine blk_drew ?_ | refine blk_alloc ?_ _)); refine blk_put (cs := #[.int .i64 0, .int .i64 0, .int .i64 0, .int .i64 0, .int .i64 0, .int .i64 0, .int .i64 0, .string (⟨#[]⟩ : ByteArray)]) ?_ 2 _ rfl; (with_reducible repeat (first | refine blk_drewN ?_ _ | refine blk_drew ?_ | refine blk_alloc ?_ _)); refine blk_put (cs := #[.int .i64 0, .int .i64 0, .int .i64 0, .int .i64 0, .int .i64 0, .int .i64 0, .int .i64 0, .string (⟨#[]⟩ : ByteArray)]) ?_ 1 _ rfl; (with_reducible repeat (first | refine blk_drewN ?_ _ | refine blk_drew ?_ | refine blk_alloc ?_ _)); refine blk_put (cs := #[.int .i64 0, .int .i64 0, .int .i64 0, .int .i64 0, .int .i64 0, .int .i64 0, .int .i64 0, .string (⟨#[]⟩ : ByteArray)]) ?_ 0 _ rfl; (with_reducible repeat (first | refine blk_drewN ?_ _ | refine blk_drew ?_ | refine blk_alloc ?_ _)); refine blk_far ?_ NB144_143.out _; (with_reducible repeat (first | refine blk_drewN ?_ _ | refine blk_drew ?_ | refine blk_alloc ?_ _)); refine blk_far ?_ NB144_142.out _; (with_reducible repeat (first | refine blk_drewN ?_ _ | refine blk_drew ?_ | refine blk_alloc ?_ _)); exact BK144.out) Try.underlying23 rfl (by kernel_rfl) (.tmp .nil)))) rfl ?_
   exact ⟨_, by first | rfl | (simp [errW_none, errW_some] <;> rfl) | (simp [*, errW_none, errW_some] <;> rfl), Kd.V_mono (Kd.R_V (base := w.heap.size) (Kd.R_bound (ok := fun _ => True) (by (with_reducible repeat (first | apply Kd.R_alloc | apply Kd.R_drewN | apply Kd.R_drew)); exact Kd.R_mono (Kd.R_far (p := ⟨gb144, 7, none⟩) (Kd.R_far (p := ⟨gb144, 6, none⟩) (Kd.R_far (p := ⟨gb144, 5, none⟩) (Kd.R_far (p := ⟨gb144, 4, none⟩) (Kd.R_far (p := ⟨gb144, 3, none⟩) (Kd.R_far (p := ⟨gb144, 2, none⟩) (Kd.R_far (p := ⟨gb144, 1, none⟩) (Kd.R_far (p := ⟨gb144, 0, none⟩) (Kd.R_far (p := ⟨gb143, 0, none⟩) (Kd.R_far (p := ⟨gb142, 0, none⟩) (Kd.R_mono (Kd.R_types (Kd.R_types HO147.out BK142.out (by decide)) BK143.out (by decide)) (fun k_ hk => (⟨hk, hk.1.1.2⟩ : _ ∧ k_ ≠ gb144))) (fun _ hk => hk.1.1.2) (.slice Ao25 t145.length co25)) (fun _ hk => hk.1.2) (.slice Ao25 t145.length co25)) (fun _ hk => hk.2) (.int .i64 0)) (fun _ hk => hk.2) (.int .i64 0)) (fun _ hk => hk.2) (.int .i64 0)) (fun _ hk => hk.2) (.int .i64 0)) (fun _ hk => hk.2) (.int .i64 0)) (fun _ hk => hk.2) (.int .i64 0)) (fun _ hk => hk.2) (.int .i64 0)) (fun _ hk => hk.2) (.string (⟨#[]⟩ : ByteArray))) (fun _ hk => trivial)))) (fun k_ hk => hk.2.1), by repeat (first | (with_reducible first | exact HB.out | apply below_alloc | apply pw_below_drewN | apply below_drew1 | refine below_set ?_ GE142.out | refine below_set ?_ GE143.out | refine below_set ?_ GE144.out) | exact HB.out)⟩
  ·rw [if_neg c17] at H
   have c17b0 : decide ((t145.length : Int) ≤ a1) = false := decide_eq_false c17
   clear c17
   by_cases c30 : 0 ≤ a1
   ·rw [if_pos c30] at H
    have c30b0 : decide (0 ≤ a1) = true := decide_eq_true c30
    clear c30
    by_cases c31 : a1 < (t145.length : Int)
    ·rw [if_pos c31] at H
     have c31b0 : decide (a1 < (t145.length : Int)) = true := decide_eq_true c31
     clear c31
     have c32b0 := eq_true (of_decide_eq_true (by first | (with_reducible assumption) | assumption) : 0 ≤ a1)
     by_cases c33 : a1 ≤ (t145.length : Int)
     ·rw [if_pos c33] at H
      have c33b0 := eq_true c33
      have c33b1 : decide (a1 ≤ (t145.length : Int)) = true := decide_eq_true c33
      clear c33
      obtain ⟨y150, hy150⟩ : ∃ y_ : List (S23), y_ = (t145.take (a1 : Int).toNat) := ⟨_, rfl⟩
      replace H : (if 0 ≤ (wrap64 (a1 + 1)) then (if (wrap64 (a1 + 1)) ≤ (t145.length : Int) then (some ((t145.eraseIdx (a1 : Int).toNat), (rd_T23 t145 a1).f0, (rd_T23 t145 a1).f1, (rd_T23 t145 a1).f2, (rd_T23 t145 a1).f3, (rd_T23 t145 a1).f4, (rd_T23 t145 a1).f5, (rd_T23 t145 a1).f6, (rd_T23 t145 a1).f7, 0)) else (none)) else (none)) = some (r1, r2, r3, r4, r5, r6, r7, r8, r9, r10) := by first | (rw [hy150]; with_reducible exact H) | (have H2_ := (Option.bind_some _ _).symm.trans H; rw [hy150]; with_reducible exact H2_) | (have H2_ := (Option.bind_some _ _).symm.trans H; with_reducible exact H2_) | with_reducible exact H | (rw [hy150]; exact H) | exact H
      have Ny150 := Aside0.mk hy150
      clear hy150
      obtain ⟨ji34, hji34⟩ : ∃ j_ : Int, (wrap64 (a1 + 1)) = j_ := ⟨_, rfl⟩
      replace H : (if 0 ≤ (ji34) then (if (ji34) ≤ (t145.length : Int) then (some ((t145.eraseIdx (a1 : Int).toNat), (rd_T23 t145 a1).f0, (rd_T23 t145 a1).f1, (rd_T23 t145 a1).f2, (rd_T23 t145 a1).f3, (rd_T23 t145 a1).f4, (rd_T23 t145 a1).f5, (rd_T23 t145 a1).f6, (rd_T23 t145 a1).f7, 0)) else (none)) else (none)) = some (r1, r2, r3, r4, r5, r6, r7, r8, r9, r10) := by first | (rw [hji34] at H; exact H) | (simp only [hji34] at H ⊢; exact H)
      (try rw [hji34] at A3)
      have hji34w : (IntKind.i64.wrap (a1 + 1)) = ji34 := (i64_w _).trans hji34
      by_cases c35 : 0 ≤ (ji34)
      ·rw [if_pos c35] at H
       have c35b0 := eq_true c35
       have c35b1 : decide (0 ≤ (ji34)) = true := decide_eq_true c35
       clear c35
       by_cases c36 : (ji34) ≤ (t145.length : Int)
       ·rw [if_pos c36] at H
        have c36b0 := eq_true c36
        have c36b1 : decide ((ji34) ≤ (t145.length : Int)) = true := decide_eq_true c36
        clear c36
        obtain ⟨y154, hy154⟩ : ∃ y_ : List (S23), y_ = (t145.drop ((ji34) : Int).toNat) := ⟨_, rfl⟩
        replace H : (some ((t145.eraseIdx (a1 : Int).toNat), (rd_T23 t145 a1).f0, (rd_T23 t145 a1).f1, (rd_T23 t145 a1).f2, (rd_T23 t145 a1).f3, (rd_T23 t145 a1).f4, (rd_T23 t145 a1).f5, (rd_T23 t145 a1).f6, (rd_T23 t145 a1).f7, 0)) = some (r1, r2, r3, r4, r5, r6, r7, r8, r9, r10) := by first | (rw [hy154]; with_reducible exact H) | (have H2_ := (Option.bind_some _ _).symm.trans H; rw [hy154]; with_reducible exact H2_) | (have H2_ := (Option.bind_some _ _).symm.trans H; with_reducible exact H2_) | with_reducible exact H | (rw [hy154]; exact H) | exact H
        have Ny154 := Aside0.mk hy154
        clear hy154
        obtain ⟨y158, hy158⟩ : ∃ y_ : List (S23), y_ = (t145.eraseIdx (a1 : Int).toNat) := ⟨_, rfl⟩
        replace H : (some (y158, (rd_T23 t145 a1).f0, (rd_T23 t145 a1).f1, (rd_T23 t145 a1).f2, (rd_T23 t145 a1).f3, (rd_T23 t145 a1).f4, (rd_T23 t145 a1).f5, (rd_T23 t145 a1).f6, (rd_T23 t145 a1).f7, 0)) = some (r1, r2, r3, r4, r5, r6, r7, r8, r9, r10) := by first | (rw [hy158]; with_reducible exact H) | (have H2_ := (Option.bind_some _ _).symm.trans H; rw [hy158]; with_reducible exact H2_) | (have H2_ := (Option.bind_some _ _).symm.trans H; with_reducible exact H2_) | with_reducible exact H | (rw [hy158]; exact H) | exact H
        have Ny158 := Aside0.mk hy158
        clear hy158
        simp only [Option.some.injEq, Prod.mk.injEq] at H
        obtain ⟨rfl, rfl, rfl, rfl, rfl, rfl, rfl, rfl, rfl, rfl⟩ := H
        go_enter Try.func17, Try.ntmps17
        try go_wp2_with (first | ((with_reducible refine gate_dst (N := 2) rfl ?_); (try (refine gate_guard (by rfl) ?_; dsimp only)); refine box_event ?hg (N := 2) ?hd (cs := #[.slice A0_0 l0_0.length c0_0]) (t := 26) ?hr ?_; (case hd => rfl); (case hg => rfl); (case hr => first | (go_simp; done) | (go_simp; rfl)); intro gb142 hg w37 hbox hb; have n0_ := Aside0.mk (below_step (by repeat (first | (with_reducible first | exact HB.out | apply below_alloc | apply pw_below_drewN | apply below_drew1) | exact HB.out)) hb); have n1_ := Aside0.mk (hbox); have n2_ := Aside0.mk ((by rw [hg]; exact (below_size (by repeat (first | (with_reducible first | exact HB.out | apply below_alloc | apply pw_below_drewN | apply below_drew1) | exact HB.out))) : w.heap.size ≤ gb142)); have n3_ := Aside0.mk ((by rw [hg]; exact (below_size (by repeat (first | (with_reducible first | exact HB.out | apply below_alloc | apply pw_below_drewN | apply below_drew1) | exact HB.out))) : w.heap.size ≤ gb142)); clear HB; have HB := n0_; have BK142 := n1_; have GW142 := n2_; have GE142 := n3_; clear n0_ n1_ n2_ n3_; clear hb hbox hg) | ((with_reducible refine gate_dst (N := 4) rfl ?_); (try (refine gate_guard (by rfl) ?_; dsimp only)); refine box_event ?hg (N := 4) ?hd (cs := #[.slice none 0 0]) (t := 26) ?hr ?_; (case hd => rfl); (case hg => rfl); (case hr => first | (go_simp; done) | (go_simp; rfl)); intro gb143 hg w38 hbox hb; have n0_ := Aside0.mk (blk_below (g := gb142) (o := .cells #[.slice A0_0 l0_0.length c0_0] 26 (0, 0)) (by (with_reducible repeat (first | refine blk_drewN ?_ _ | refine blk_drew ?_ | refine blk_alloc ?_ _)); exact BK142.out) hb); have n1_ := Aside0.mk (below_step (by repeat (first | (with_reducible first | exact HB.out | apply below_alloc | apply pw_below_drewN | apply below_drew1 | refine below_set ?_ GE142.out) | exact HB.out)) hb); have n2_ := Aside0.mk (hbox); have n3_ := Aside0.mk ((by rw [hg]; exact (below_size (by repeat (first | (with_reducible first | exact HB.out | apply below_alloc | apply pw_below_drewN | apply below_drew1 | refine below_set ?_ GE142.out) | exact HB.out))) : w.heap.size ≤ gb143)); have n4_ := Aside0.mk ((by rw [hg]; exact (below_size (by repeat (first | (with_reducible first | exact HB.out | apply below_alloc | apply pw_below_drewN | apply below_drew1 | refine below_set ?_ GE142.out) | exact HB.out))) : w.heap.size ≤ gb143)); have n5_ := Aside0.mk ((by rw [hg]; exact Nat.ne_of_lt (blk_lt (g := gb142) (o := .cells #[.slice A0_0 l0_0.length c0_0] 26 (0, 0)) (by (with_reducible repeat (first | refine blk_drewN ?_ _ | refine blk_drew ?_ | refine blk_alloc ?_ _)); exact BK142.out)) : gb142 ≠ gb143)); have n6_ := Aside0.mk ((by rw [hg]; exact Nat.ne_of_gt (blk_lt (g := gb142) (o := .cells #[.slice A0_0 l0_0.length c0_0] 26 (0, 0)) (by (with_reducible repeat (first | refine blk_drewN ?_ _ | refine blk_drew ?_ | refine blk_alloc ?_ _)); exact BK142.out)) : gb143 ≠ gb142)); clear BK142; clear HB; have BK142 := n0_; have HB := n1_; have BK143 := n2_; have GW143 := n3_; have GE143 := n4_; have NB142_143 := n5_; have NB143_142 := n6_; clear n0_ n1_ n2_ n3_ n4_ n5_ n6_; clear hb hbox hg) | ((with_reducible refine gate_dst (N := 5) rfl ?_); (try (refine gate_guard (by rfl) ?_; dsimp only)); refine box_event ?hg (N := 5) ?hd (cs := #[.int .i64 0, .int .i64 0, .int .i64 0, .int .i64 0, .int .i64 0, .int .i64 0, .int .i64 0, .string (⟨#[]⟩ : ByteArray)]) (t := 23) ?hr ?_; (case hd => rfl); (case hg => rfl); (case hr => first | (go_simp; done) | (go_simp; rfl)); intro gb144 hg w39 hbox hb; have n0_ := Aside0.mk (blk_below (g := gb142) (o := .cells #[.slice A0_0 l0_0.length c0_0] 26 (0, 0)) (by (with_reducible repeat (first | refine blk_drewN ?_ _ | refine blk_drew ?_ | refine blk_alloc ?_ _)); exact BK142.out) hb); have n1_ := Aside0.mk (blk_below (g := gb143) (o := .cells #[.slice none 0 0] 26 (0, 0)) (by (with_reducible repeat (first | refine blk_drewN ?_ _ | refine blk_drew ?_ | refine blk_alloc ?_ _)); exact BK143.out) hb); have n2_ := Aside0.mk (below_step (by repeat (first | (with_reducible first | exact HB.out | apply below_alloc | apply pw_below_drewN | apply below_drew1 | refine below_set ?_ GE142.out | refine below_set ?_ GE143.out) | exact HB.out)) hb); have n3_ := Aside0.mk (hbox); have n4_ := Aside0.mk ((by rw [hg]; exact (below_size (by repeat (first | (with_reducible first | exact HB.out | apply below_alloc | apply pw_below_drewN | apply below_drew1 | refine below_set ?_ GE142.out | refine below_set ?_ GE143.out) | exact HB.out))) : w.heap.size ≤ gb144)); have n5_ := Aside0.mk ((by rw [hg]; exact (below_size (by repeat (first | (with_reducible first | exact HB.out | apply below_alloc | apply pw_below_drewN | apply below_drew1 | refine below_set ?_ GE142.out | refine below_set ?_ GE143.out) | exact HB.out))) : w.heap.size ≤ gb144)); have n6_ := Aside0.mk ((by rw [hg]; exact Nat.ne_of_lt (blk_lt (g := gb142) (o := .cells #[.slice A0_0 l0_0.length c0_0] 26 (0, 0)) (by (with_reducible repeat (first | refine blk_drewN ?_ _ | refine blk_drew ?_ | refine blk_alloc ?_ _)); exact BK142.out)) : gb142 ≠ gb144)); have n7_ := Aside0.mk ((by rw [hg]; exact Nat.ne_of_gt (blk_lt (g := gb142) (o := .cells #[.slice A0_0 l0_0.length c0_0] 26 (0, 0)) (by (with_reducible repeat (first | refine blk_drewN ?_ _ | refine blk_drew ?_ | refine blk_alloc ?_ _)); exact BK142.out)) : gb144 ≠ gb142)); have n8_ := Aside0.mk ((by rw [hg]; exact Nat.ne_of_lt (blk_lt (g := gb143) (o := .cells #[.slice none 0 0] 26 (0, 0)) (by (with_reducible repeat (first | refine blk_drewN ?_ _ | refine blk_drew ?_ | refine blk_alloc ?_ _)); exact BK143.out)) : gb143 ≠ gb144)); have n9_ := Aside0.mk ((by rw [hg]; exact Nat.ne_of_gt (blk_lt (g := gb143) (o := .cells #[.slice none 0 0] 26 (0, 0)) (by (with_reducible repeat (first | refine blk_drewN ?_ _ | refine blk_drew ?_ | refine blk_alloc ?_ _)); exact BK143.out)) : gb144 ≠ gb143)); clear BK142; clear BK143; clear HB; have BK142 := n0_; have BK143 := n1_; have HB := n2_; have BK144 := n3_; have GW144 := n4_; have GE144 := n5_; have NB142_144 := n6_; have NB144_142 := n7_; have NB143_144 := n8_; have NB144_143 := n9_; clear n0_ n1_ n2_ n3_ n4_ n5_ n6_ n7_ n8_ n9_; clear hb hbox hg; have hnb40 := NB142_143.out; have hnc40 := NB143_142.out; have hnb41 := NB142_144.out; have hnc41 := NB144_142.out; have hcz42_0 : w39.cell? ⟨gb142, 0, none⟩ = some (.slice A0_0 l0_0.length c0_0) := (blk_cell BK142.out 0).trans rfl; have hfz42_0 := blk_frozen BK142.out 0) | ((with_reducible refine gate_callee (f := 26) rfl ?_); refine goesL_ (some 9) rfl rfl Try.func26 (by kernel_rfl) rfl #[.agg #[.slice A0_0 l0_0.length c0_0]] rfl (by (try simp only [List.map_toArray, List.map_cons, List.map_nil]); first | done | rfl | (simp only [List.length_drop, List.length_take]; rfl)) ?_; (with_reducible refine (net_own.calls k _ _ l0_0 t145 _ ?side1 ?side2 A3.out).mono ?_); (case side1 => repeat (first | exact (Kd.C_below HR0_0.out HB.out) | (with_reducible refine Kd.C_alloc ?_ _) | (with_reducible refine Kd.C_drewN ?_ _) | (with_reducible refine Kd.C_drew ?_))); (case side2 => exact HC0_0.out); rintro e w43 ⟨v146, rfl, ho0, hb⟩; refine ⟨_, rfl, ?_⟩; have n0_ := Aside0.mk (Kd.R_lower (Kd.R_newB ho0 (g := gb144) (o := .cells #[.int .i64 0, .int .i64 0, .int .i64 0, .int .i64 0, .int .i64 0, .int .i64 0, .int .i64 0, .string (⟨#[]⟩ : ByteArray)] 23 (0, 0)) (by (with_reducible repeat (first | refine blk_drewN ?_ _ | refine blk_drew ?_ | refine blk_alloc ?_ _)); exact BK144.out)) (below_size (by repeat (first | (with_reducible first | exact HB.out | apply below_alloc | apply pw_below_drewN | apply below_drew1 | refine below_set ?_ GE142.out | refine below_set ?_ GE143.out | refine below_set ?_ GE144.out) | exact HB.out)))); have n1_ := Aside0.mk (blk_below (g := gb142) (o := .cells #[.slice A0_0 l0_0.length c0_0] 26 (0, 0)) (by (with_reducible repeat (first | refine blk_drewN ?_ _ | refine blk_drew ?_ | refine blk_alloc ?_ _)); exact BK142.out) hb); have n2_ := Aside0.mk (blk_below (g := gb143) (o := .cells #[.slice none 0 0] 26 (0, 0)) (by (with_reducible repeat (first | refine blk_drewN ?_ _ | refine blk_drew ?_ | refine blk_alloc ?_ _)); exact BK143.out) hb); have n3_ := Aside0.mk (blk_below (g := gb144) (o := .cells #[.int .i64 0, .int .i64 0, .int .i64 0, .int .i64 0, .int .i64 0, .int .i64 0, .int .i64 0, .string (⟨#[]⟩ : ByteArray)] 23 (0, 0)) (by (with_reducible repeat (first | refine blk_drewN ?_ _ | refine blk_drew ?_ | refine blk_alloc ?_ _)); exact BK144.out) hb); have n4_ := Aside0.mk (below_step (by repeat (first | (with_reducible first | exact HB.out | apply below_alloc | apply pw_below_drewN | apply below_drew1 | refine below_set ?_ GE142.out | refine below_set ?_ GE143.out | refine below_set ?_ GE144.out) | exact HB.out)) hb); clear BK142; clear BK143; clear BK144; clear HB; have HO147 := n0_; have BK142 := n1_; have BK143 := n2_; have BK144 := n3_; have HB := n4_; clear n0_ n1_ n2_ n3_ n4_; (try clear hb); (try clear hb2); (try clear hk); (try clear hi); (try clear ho0); obtain ⟨Ao44, co44, eo44⟩ := Kd.R_slice HO147.out; subst eo44; have hcz45_0 : w43.cell? ⟨gb142, 0, none⟩ = some (.slice A0_0 l0_0.length c0_0) := (blk_cell BK142.out 0).trans rfl; have hfz45_0 := blk_frozen BK142.out 0; have p148 : 0 ≤ (a1 : Int) := of_decide_eq_true (by first | (with_reducible assumption) | assumption); have q148 : a1 < (t145.length : Int) := of_decide_eq_true (by first | (with_reducible assumption) | assumption); obtain ⟨ad148, e148, hx148_0, hx148_1, hx148_2, hx148_3, hx148_4, hx148_5, hx148_6, hx148_7⟩ := at_T23 (Kd.R_reads' HO147.out).2.2 a1 p148 q148; cases e148; have hn148_0 : ad148.block ≠ gb142 := Kd.own_blk (Kd.R_ne HO147.out BK142.out (by decide)); replace hx148_0 := (cell_far (p := ⟨gb142, 0, none⟩) (by first | (rw [add_block]; exact hn148_0) | (show (Addr.add _ _).block ≠ _; rw [add_block]; exact hn148_0) | exact hn148_0) (.slice (some ad148) t145.length co44)).trans hx148_0; replace hx148_1 := (cell_far (p := ⟨gb142, 0, none⟩) (by first | (rw [add_block]; exact hn148_0) | (show (Addr.add _ _).block ≠ _; rw [add_block]; exact hn148_0) | exact hn148_0) (.slice (some ad148) t145.length co44)).trans hx148_1; replace hx148_2 := (cell_far (p := ⟨gb142, 0, none⟩) (by first | (rw [add_block]; exact hn148_0) | (show (Addr.add _ _).block ≠ _; rw [add_block]; exact hn148_0) | exact hn148_0) (.slice (some ad148) t145.length co44)).trans hx148_2; replace hx148_3 := (cell_far (p := ⟨gb142, 0, none⟩) (by first | (rw [add_block]; exact hn148_0) | (show (Addr.add _ _).block ≠ _; rw [add_block]; exact hn148_0) | exact hn148_0) (.slice (some ad148) t145.length co44)).trans hx148_3; replace hx148_4 := (cell_far (p := ⟨gb142, 0, none⟩) (by first | (rw [add_block]; exact hn148_0) | (show (Addr.add _ _).block ≠ _; rw [add_block]; exact hn148_0) | exact hn148_0) (.slice (some ad148) t145.length co44)).trans hx148_4; replace hx148_5 := (cell_far (p := ⟨gb142, 0, none⟩) (by first | (rw [add_block]; exact hn148_0) | (show (Addr.add _ _).block ≠ _; rw [add_block]; exact hn148_0) | exact hn148_0) (.slice (some ad148) t145.length co44)).trans hx148_5; replace hx148_6 := (cell_far (p := ⟨gb142, 0, none⟩) (by first | (rw [add_block]; exact hn148_0) | (show (Addr.add _ _).block ≠ _; rw [add_block]; exact hn148_0) | exact hn148_0) (.slice (some ad148) t145.length co44)).trans hx148_6; replace hx148_7 := (cell_far (p := ⟨gb142, 0, none⟩) (by first | (rw [add_block]; exact hn148_0) | (show (Addr.add _ _).block ≠ _; rw [add_block]; exact hn148_0) | exact hn148_0) (.slice (some ad148) t145.length co44)).trans hx148_7; clear hn148_0; replace p148 := eq_true p148; replace q148 := eq_true q148) | ((with_reducible refine gate_dst (N := 7) rfl ?_); (try (refine gate_guard (by rfl) ?_; dsimp only)); refine box_event ?hg (N := 7) ?hd (cs := #[.int .i64 0, .int .i64 0, .int .i64 0, .int .i64 0, .int .i64 0, .int .i64 0, .int .i64 0, .string (⟨#[]⟩ : ByteArray)]) (t := 23) ?hr ?_; (case hd => rfl); (case hg => rfl); (case hr => first | (go_simp; done) | (go_simp; rfl)); intro gb149 hg w46 hbox hb; have n0_ := Aside0.mk (Kd.R_below (Kd.R_elderB (by (with_reducible repeat (first | apply Kd.R_alloc | apply Kd.R_drewN | apply Kd.R_drew)); exact (Kd.R_mono (Kd.R_far (p := ⟨gb142, 0, none⟩) (Kd.R_types HO147.out BK142.out (by decide)) (fun _ hk => hk.2) (.slice (some ad148) t145.length co44)) (fun _ h_ => h_.1))) gb149 (Nat.le_of_eq hg.symm)) hb); have n1_ := Aside0.mk (blk_below (g := gb142) (o := .cells #[.slice (some ad148) t145.length co44] 26 (0, 0)) (by (with_reducible repeat (first | refine blk_drewN ?_ _ | refine blk_drew ?_ | refine blk_alloc ?_ _)); refine blk_put (cs := #[.slice A0_0 l0_0.length c0_0]) ?_ 0 _ rfl; (with_reducible repeat (first | refine blk_drewN ?_ _ | refine blk_drew ?_ | refine blk_alloc ?_ _)); exact BK142.out) hb); have n2_ := Aside0.mk (blk_below (g := gb143) (o := .cells #[.slice none 0 0] 26 (0, 0)) (by (with_reducible repeat (first | refine blk_drewN ?_ _ | refine blk_drew ?_ | refine blk_alloc ?_ _)); refine blk_far ?_ NB143_142.out _; (with_reducible repeat (first | refine blk_drewN ?_ _ | refine blk_drew ?_ | refine blk_alloc ?_ _)); exact BK143.out) hb); have n3_ := Aside0.mk (blk_below (g := gb144) (o := .cells #[.int .i64 0, .int .i64 0, .int .i64 0, .int .i64 0, .int .i64 0, .int .i64 0, .int .i64 0, .string (⟨#[]⟩ : ByteArray)] 23 (0, 0)) (by (with_reducible repeat (first | refine blk_drewN ?_ _ | refine blk_drew ?_ | refine blk_alloc ?_ _)); refine blk_far ?_ NB144_142.out _; (with_reducible repeat (first | refine blk_drewN ?_ _ | refine blk_drew ?_ | refine blk_alloc ?_ _)); exact BK144.out) hb); have n4_ := Aside0.mk (below_step (by repeat (first | (with_reducible first | exact HB.out | apply below_alloc | apply pw_below_drewN | apply below_drew1 | refine below_set ?_ GE142.out | refine below_set ?_ GE143.out | refine below_set ?_ GE144.out) | exact HB.out)) hb); have n5_ := Aside0.mk (hbox); have n6_ := Aside0.mk ((by rw [hg]; exact (below_size (by repeat (first | (with_reducible first | exact HB.out | apply below_alloc | apply pw_below_drewN | apply below_drew1 | refine below_set ?_ GE142.out | refine below_set ?_ GE143.out | refine below_set ?_ GE144.out) | exact HB.out))) : w.heap.size ≤ gb149)); have n7_ := Aside0.mk ((by rw [hg]; exact (below_size (by repeat (first | (with_reducible first | exact HB.out | apply below_alloc | apply pw_below_drewN | apply below_drew1 | refine below_set ?_ GE142.out | refine below_set ?_ GE143.out | refine below_set ?_ GE144.out) | exact HB.out))) : w.heap.size ≤ gb149)); have n8_ := Aside0.mk ((by rw [hg]; exact Nat.ne_of_lt (blk_lt (g := gb142) (o := .cells #[.slice (some ad148) t145.length co44] 26 (0, 0)) (by (with_reducible repeat (first | refine blk_drewN ?_ _ | refine blk_drew ?_ | refine blk_alloc ?_ _)); refine blk_put (cs := #[.slice A0_0 l0_0.length c0_0]) ?_ 0 _ rfl; (with_reducible repeat (first | refine blk_drewN ?_ _ | refine blk_drew ?_ | refine blk_alloc ?_ _)); exact BK142.out)) : gb142 ≠ gb149)); have n9_ := Aside0.mk ((by rw [hg]; exact Nat.ne_of_gt (blk_lt (g := gb142) (o := .cells #[.slice (some ad148) t145.length co44] 26 (0, 0)) (by (with_reducible repeat (first | refine blk_drewN ?_ _ | refine blk_drew ?_ | refine blk_alloc ?_ _)); refine blk_put (cs := #[.slice A0_0 l0_0.length c0_0]) ?_ 0 _ rfl; (with_reducible repeat (first | refine blk_drewN ?_ _ | refine blk_drew ?_ | refine blk_alloc ?_ _)); exact BK142.out)) : gb149 ≠ gb142)); have n10_ := Aside0.mk ((by rw [hg]; exact Nat.ne_of_lt (blk_lt (g := gb143) (o := .cells #[.slice none 0 0] 26 (0, 0)) (by (with_reducible repeat (first | refine blk_drewN ?_ _ | refine blk_drew ?_ | refine blk_alloc ?_ _)); refine blk_far ?_ NB143_142.out _; (with_reducible repeat (first | refine blk_drewN ?_ _ | refine blk_drew ?_ | refine blk_alloc ?_ _)); exact BK143.out)) : gb143 ≠ gb149)); have n11_ := Aside0.mk ((by rw [hg]; exact Nat.ne_of_gt (blk_lt (g := gb143) (o := .cells #[.slice none 0 0] 26 (0, 0)) (by (with_reducible repeat (first | refine blk_drewN ?_ _ | refine blk_drew ?_ | refine blk_alloc ?_ _)); refine blk_far ?_ NB143_142.out _; (with_reducible repeat (first | refine blk_drewN ?_ _ | refine blk_drew ?_ | refine blk_alloc ?_ _)); exact BK143.out)) : gb149 ≠ gb143)); have n12_ := Aside0.mk ((by rw [hg]; exact Nat.ne_of_lt (blk_lt (g := gb144) (o := .cells #[.int .i64 0, .int .i64 0, .int .i64 0, .int .i64 0, .int .i64 0, .int .i64 0, .int .i64 0, .string (⟨#[]⟩ : ByteArray)] 23 (0, 0)) (by (with_reducible repeat (first | refine blk_drewN ?_ _ | refine blk_drew ?_ | refine blk_alloc ?_ _)); refine blk_far ?_ NB144_142.out _; (with_reducible repeat (first | refine blk_drewN ?_ _ | refine blk_drew ?_ | refine blk_alloc ?_ _)); exact BK144.out)) : gb144 ≠ gb149)); have n13_ := Aside0.mk ((by rw [hg]; exact Nat.ne_of_gt (blk_lt (g := gb144) (o := .cells #[.int .i64 0, .int .i64 0, .int .i64 0, .int .i64 0, .int .i64 0, .int .i64 0, .int .i64 0, .string (⟨#[]⟩ : ByteArray)] 23 (0, 0)) (by (with_reducible repeat (first | refine blk_drewN ?_ _ | refine blk_drew ?_ | refine blk_alloc ?_ _)); refine blk_far ?_ NB144_142.out _; (with_reducible repeat (first | refine blk_drewN ?_ _ | refine blk_drew ?_ | refine blk_alloc ?_ _)); exact BK144.out)) : gb149 ≠ gb144)); clear HO147; clear BK142; clear BK143; clear BK144; clear HB; have HO147 := n0_; have BK142 := n1_; have BK143 := n2_; have BK144 := n3_; have HB := n4_; have BK149 := n5_; have GW149 := n6_; have GE149 := n7_; have NB142_149 := n8_; have NB149_142 := n9_; have NB143_149 := n10_; have NB149_143 := n11_; have NB144_149 := n12_; have NB149_144 := n13_; clear n0_ n1_ n2_ n3_ n4_ n5_ n6_ n7_ n8_ n9_ n10_ n11_ n12_ n13_; clear hb hbox hg; have hnb47 := NB149_142.out; have hnc47 := NB142_149.out; have hnb48 := NB149_143.out; have hnc48 := NB143_149.out; have hnb49 := NB149_144.out; have hnc49 := NB144_149.out; have hcz50_0 : w46.cell? ⟨gb149, 0, none⟩ = some (.int .i64 0) := (blk_cell BK149.out 0).trans rfl; have hcz50_1 : w46.cell? ⟨gb149, 1, none⟩ = some (.int .i64 0) := (blk_cell BK149.out 1).trans rfl; have hcz50_2 : w46.cell? ⟨gb149, 2, none⟩ = some (.int .i64 0) := (blk_cell BK149.out 2).trans rfl; have hcz50_3 : w46.cell? ⟨gb149, 3, none⟩ = some (.int .i64 0) := (blk_cell BK149.out 3).trans rfl; have hcz50_4 : w46.cell? ⟨gb149, 4, none⟩ = some (.int .i64 0) := (blk_cell BK149.out 4).trans rfl; have hcz50_5 : w46.cell? ⟨gb149, 5, none⟩ = some (.int .i64 0) := (blk_cell BK149.out 5).trans rfl; have hcz50_6 : w46.cell? ⟨gb149, 6, none⟩ = some (.int .i64 0) := (blk_cell BK149.out 6).trans rfl; have hcz50_7 : w46.cell? ⟨gb149, 7, none⟩ = some (.string (⟨#[]⟩ : ByteArray)) := (blk_cell BK149.out 7).trans rfl; have hfz50_0 := blk_frozen BK149.out 0; have hfz50_1 := blk_frozen BK149.out 1; have hfz50_2 := blk_frozen BK149.out 2; have hfz50_3 := blk_frozen BK149.out 3; have hfz50_4 := blk_frozen BK149.out 4; have hfz50_5 := blk_frozen BK149.out 5; have hfz50_6 := blk_frozen BK149.out 6; have hfz50_7 := blk_frozen BK149.out 7))
        have n0_ : Aside0 (Kd.R k23 23 ((((((((w46.setCell ⟨gb149, 0, none⟩ (.int .i64 ((rd_T23 t145 a1).f0))).setCell ⟨gb149, 1, none⟩ (.int .i64 ((rd_T23 t145 a1).f1))).setCell ⟨gb149, 2, none⟩ (.int .i64 ((rd_T23 t145 a1).f2))).setCell ⟨gb149, 3, none⟩ (.int .i64 ((rd_T23 t145 a1).f3))).setCell ⟨gb149, 4, none⟩ (.int .i64 ((rd_T23 t145 a1).f4))).setCell ⟨gb149, 5, none⟩ (.int .i64 ((rd_T23 t145 a1).f5))).setCell ⟨gb149, 6, none⟩ (.int .i64 ((rd_T23 t145 a1).f6))).setCell ⟨gb149, 7, none⟩ (.string ((rd_T23 t145 a1).f7))) w.heap.size (fun k_ => k_ ≠ gb144 ∧ k_ ≠ gb149) (.slice (some ad148) t145.length co44) t145) := ⟨by (with_reducible repeat (first | apply Kd.R_alloc | apply Kd.R_drewN | apply Kd.R_drew)); exact Kd.R_mono (Kd.R_far (p := ⟨gb149, 7, none⟩) (Kd.R_far (p := ⟨gb149, 6, none⟩) (Kd.R_far (p := ⟨gb149, 5, none⟩) (Kd.R_far (p := ⟨gb149, 4, none⟩) (Kd.R_far (p := ⟨gb149, 3, none⟩) (Kd.R_far (p := ⟨gb149, 2, none⟩) (Kd.R_far (p := ⟨gb149, 1, none⟩) (Kd.R_far (p := ⟨gb149, 0, none⟩) (Kd.R_mono HO147.out (fun k_ hk => (⟨hk, hk.2⟩ : _ ∧ k_ ≠ gb149))) (fun _ hk => hk.2) (.int .i64 ((rd_T23 t145 a1).f0))) (fun _ hk => hk.2) (.int .i64 ((rd_T23 t145 a1).f1))) (fun _ hk => hk.2) (.int .i64 ((rd_T23 t145 a1).f2))) (fun _ hk => hk.2) (.int .i64 ((rd_T23 t145 a1).f3))) (fun _ hk => hk.2) (.int .i64 ((rd_T23 t145 a1).f4))) (fun _ hk => hk.2) (.int .i64 ((rd_T23 t145 a1).f5))) (fun _ hk => hk.2) (.int .i64 ((rd_T23 t145 a1).f6))) (fun _ hk => hk.2) (.string ((rd_T23 t145 a1).f7))) (fun _ hk => ⟨hk.1.1.2, hk.1.2⟩)⟩
        have n1_ : Aside0 (((((((((w46.setCell ⟨gb149, 0, none⟩ (.int .i64 ((rd_T23 t145 a1).f0))).setCell ⟨gb149, 1, none⟩ (.int .i64 ((rd_T23 t145 a1).f1))).setCell ⟨gb149, 2, none⟩ (.int .i64 ((rd_T23 t145 a1).f2))).setCell ⟨gb149, 3, none⟩ (.int .i64 ((rd_T23 t145 a1).f3))).setCell ⟨gb149, 4, none⟩ (.int .i64 ((rd_T23 t145 a1).f4))).setCell ⟨gb149, 5, none⟩ (.int .i64 ((rd_T23 t145 a1).f5))).setCell ⟨gb149, 6, none⟩ (.int .i64 ((rd_T23 t145 a1).f6))).setCell ⟨gb149, 7, none⟩ (.string ((rd_T23 t145 a1).f7))).heap[gb142]? = some (.cells #[.slice (some ad148) t145.length co44] 26 (0, 0))) := ⟨by (with_reducible repeat (first | refine blk_drewN ?_ _ | refine blk_drew ?_ | refine blk_alloc ?_ _)); refine blk_far ?_ NB142_149.out _; (with_reducible repeat (first | refine blk_drewN ?_ _ | refine blk_drew ?_ | refine blk_alloc ?_ _)); refine blk_far ?_ NB142_149.out _; (with_reducible repeat (first | refine blk_drewN ?_ _ | refine blk_drew ?_ | refine blk_alloc ?_ _)); refine blk_far ?_ NB142_149.out _; (with_reducible repeat (first | refine blk_drewN ?_ _ | refine blk_drew ?_ | refine blk_alloc ?_ _)); refine blk_far ?_ NB142_149.out _; (with_reducible repeat (first | refine blk_drewN ?_ _ | refine blk_drew ?_ | refine blk_alloc ?_ _)); refine blk_far ?_ NB142_149.out _; (with_reducible repeat (first | refine blk_drewN ?_ _ | refine blk_drew ?_ | refine blk_alloc ?_ _)); refine blk_far ?_ NB142_149.out _; (with_reducible repeat (first | refine blk_drewN ?_ _ | refine blk_drew ?_ | refine blk_alloc ?_ _)); refine blk_far ?_ NB142_149.out _; (with_reducible repeat (first | refine blk_drewN ?_ _ | refine blk_drew ?_ | refine blk_alloc ?_ _)); refine blk_far ?_ NB142_149.out _; (with_reducible repeat (first | refine blk_drewN ?_ _ | refine blk_drew ?_ | refine blk_alloc ?_ _)); exact BK142.out⟩
        have n2_ : Aside0 (((((((((w46.setCell ⟨gb149, 0, none⟩ (.int .i64 ((rd_T23 t145 a1).f0))).setCell ⟨gb149, 1, none⟩ (.int .i64 ((rd_T23 t145 a1).f1))).setCell ⟨gb149, 2, none⟩ (.int .i64 ((rd_T23 t145 a1).f2))).setCell ⟨gb149, 3, none⟩ (.int .i64 ((rd_T23 t145 a1).f3))).setCell ⟨gb149, 4, none⟩ (.int .i64 ((rd_T23 t145 a1).f4))).setCell ⟨gb149, 5, none⟩ (.int .i64 ((rd_T23 t145 a1).f5))).setCell ⟨gb149, 6, none⟩ (.int .i64 ((rd_T23 t145 a1).f6))).setCell ⟨gb149, 7, none⟩ (.string ((rd_T23 t145 a1).f7))).heap[gb143]? = some (.cells #[.slice none 0 0] 26 (0, 0))) := ⟨by (with_reducible repeat (first | refine blk_drewN ?_ _ | refine blk_drew ?_ | refine blk_alloc ?_ _)); refine blk_far ?_ NB143_149.out _; (with_reducible repeat (first | refine blk_drewN ?_ _ | refine blk_drew ?_ | refine blk_alloc ?_ _)); refine blk_far ?_ NB143_149.out _; (with_reducible repeat (first | refine blk_drewN ?_ _ | refine blk_drew ?_ | refine blk_alloc ?_ _)); refine blk_far ?_ NB143_149.out _; (with_reducible repeat (first | refine blk_drewN ?_ _ | refine blk_drew ?_ | refine blk_alloc ?_ _)); refine blk_far ?_ NB143_149.out _; (with_reducible repeat (first | refine blk_drewN ?_ _ | refine blk_drew ?_ | refine blk_alloc ?_ _)); refine blk_far ?_ NB143_149.out _; (with_reducible repeat (first | refine blk_drewN ?_ _ | refine blk_drew ?_ | refine blk_alloc ?_ _)); refine blk_far ?_ NB143_149.out _; (with_reducible repeat (first | refine blk_drewN ?_ _ | refine blk_drew ?_ | refine blk_alloc ?_ _)); refine blk_far ?_ NB143_149.out _; (with_reducible repeat (first | refine blk_drewN ?_ _ | refine blk_drew ?_ | refine blk_alloc ?_ _)); refine blk_far ?_ NB143_149.out _; (with_reducible repeat (first | refine blk_drewN ?_ _ | refine blk_drew ?_ | refine blk_alloc ?_ _)); exact BK143.out⟩
        have n3_ : Aside0 (((((((((w46.setCell ⟨gb149, 0, none⟩ (.int .i64 ((rd_T23 t145 a1).f0))).setCell ⟨gb149, 1, none⟩ (.int .i64 ((rd_T23 t145 a1).f1))).setCell ⟨gb149, 2, none⟩ (.int .i64 ((rd_T23 t145 a1).f2))).setCell ⟨gb149, 3, none⟩ (.int .i64 ((rd_T23 t145 a1).f3))).setCell ⟨gb149, 4, none⟩ (.int .i64 ((rd_T23 t145 a1).f4))).setCell ⟨gb149, 5, none⟩ (.int .i64 ((rd_T23 t145 a1).f5))).setCell ⟨gb149, 6, none⟩ (.int .i64 ((rd_T23 t145 a1).f6))).setCell ⟨gb149, 7, none⟩ (.string ((rd_T23 t145 a1).f7))).heap[gb144]? = some (.cells #[.int .i64 0, .int .i64 0, .int .i64 0, .int .i64 0, .int .i64 0, .int .i64 0, .int .i64 0, .string (⟨#[]⟩ : ByteArray)] 23 (0, 0))) := ⟨by (with_reducible repeat (first | refine blk_drewN ?_ _ | refine blk_drew ?_ | refine blk_alloc ?_ _)); refine blk_far ?_ NB144_149.out _; (with_reducible repeat (first | refine blk_drewN ?_ _ | refine blk_drew ?_ | refine blk_alloc ?_ _)); refine blk_far ?_ NB144_149.out _; (with_reducible repeat (first | refine blk_drewN ?_ _ | refine blk_drew ?_ | refine blk_alloc ?_ _)); refine blk_far ?_ NB144_149.out _; (with_reducible repeat (first | refine blk_drewN ?_ _ | refine blk_drew ?_ | refine blk_alloc ?_ _)); refine blk_far ?_ NB144_149.out _; (with_reducible repeat (first | refine blk_drewN ?_ _ | refine blk_drew ?_ | refine blk_alloc ?_ _)); refine blk_far ?_ NB144_149.out _; (with_reducible repeat (first | refine blk_drewN ?_ _ | refine blk_drew ?_ | refine blk_alloc ?_ _)); refine blk_far ?_ NB144_149.out _; (with_reducible repeat (first | refine blk_drewN ?_ _ | refine blk_drew ?_ | refine blk_alloc ?_ _)); refine blk_far ?_ NB144_149.out _; (with_reducible repeat (first | refine blk_drewN ?_ _ | refine blk_drew ?_ | refine blk_alloc ?_ _)); refine blk_far ?_ NB144_149.out _; (with_reducible repeat (first | refine blk_drewN ?_ _ | refine blk_drew ?_ | refine blk_alloc ?_ _)); exact BK144.out⟩
        have n4_ : Aside0 (((((((((w46.setCell ⟨gb149, 0, none⟩ (.int .i64 ((rd_T23 t145 a1).f0))).setCell ⟨gb149, 1, none⟩ (.int .i64 ((rd_T23 t145 a1).f1))).setCell ⟨gb149, 2, none⟩ (.int .i64 ((rd_T23 t145 a1).f2))).setCell ⟨gb149, 3, none⟩ (.int .i64 ((rd_T23 t145 a1).f3))).setCell ⟨gb149, 4, none⟩ (.int .i64 ((rd_T23 t145 a1).f4))).setCell ⟨gb149, 5, none⟩ (.int .i64 ((rd_T23 t145 a1).f5))).setCell ⟨gb149, 6, none⟩ (.int .i64 ((rd_T23 t145 a1).f6))).setCell ⟨gb149, 7, none⟩ (.string ((rd_T23 t145 a1).f7))).heap[gb149]? = some (.cells #[.int .i64 ((rd_T23 t145 a1).f0), .int .i64 ((rd_T23 t145 a1).f1), .int .i64 ((rd_T23 t145 a1).f2), .int .i64 ((rd_T23 t145 a1).f3), .int .i64 ((rd_T23 t145 a1).f4), .int .i64 ((rd_T23 t145 a1).f5), .int .i64 ((rd_T23 t145 a1).f6), .string ((rd_T23 t145 a1).f7)] 23 (0, 0))) := ⟨by (with_reducible repeat (first | refine blk_drewN ?_ _ | refine blk_drew ?_ | refine blk_alloc ?_ _)); refine blk_put (cs := #[.int .i64 ((rd_T23 t145 a1).f0), .int .i64 ((rd_T23 t145 a1).f1), .int .i64 ((rd_T23 t145 a1).f2), .int .i64 ((rd_T23 t145 a1).f3), .int .i64 ((rd_T23 t145 a1).f4), .int .i64 ((rd_T23 t145 a1).f5), .int .i64 ((rd_T23 t145 a1).f6), .string (⟨#[]⟩ : ByteArray)]) ?_ 7 _ rfl; (with_reducible repeat (first | refine blk_drewN ?_ _ | refine blk_drew ?_ | refine blk_alloc ?_ _)); refine blk_put (cs := #[.int .i64 ((rd_T23 t145 a1).f0), .int .i64 ((rd_T23 t145 a1).f1), .int .i64 ((rd_T23 t145 a1).f2), .int .i64 ((rd_T23 t145 a1).f3), .int .i64 ((rd_T23 t145 a1).f4), .int .i64 ((rd_T23 t145 a1).f5), .int .i64 0, .string (⟨#[]⟩ : ByteArray)]) ?_ 6 _ rfl; (with_reducible repeat (first | refine blk_drewN ?_ _ | refine blk_drew ?_ | refine blk_alloc ?_ _)); refine blk_put (cs := #[.int .i64 ((rd_T23 t145 a1).f0), .int .i64 ((rd_T23 t145 a1).f1), .int .i64 ((rd_T23 t145 a1).f2), .int .i64 ((rd_T23 t145 a1).f3), .int .i64 ((rd_T23 t145 a1).f4), .int .i64 0, .int .i64 0, .string (⟨#[]⟩ : ByteArray)]) ?_ 5 _ rfl; (with_reducible repeat (first | refine blk_drewN ?_ _ | refine blk_drew ?_ | refine blk_alloc ?_ _)); refine blk_put (cs := #[.int .i64 ((rd_T23 t145 a1).f0), .int .i64 ((rd_T23 t145 a1).f1), .int .i64 ((rd_T23 t145 a1).f2), .int .i64 ((rd_T23 t145 a1).f3), .int .i64 0, .int .i64 0, .int .i64 0, .string (⟨#[]⟩ : ByteArray)]) ?_ 4 _ rfl; (with_reducible repeat (first | refine blk_drewN ?_ _ | refine blk_drew ?_ | refine blk_alloc ?_ _)); refine blk_put (cs := #[.int .i64 ((rd_T23 t145 a1).f0), .int .i64 ((rd_T23 t145 a1).f1), .int .i64 ((rd_T23 t145 a1).f2), .int .i64 0, .int .i64 0, .int .i64 0, .int .i64 0, .string (⟨#[]⟩ : ByteArray)]) ?_ 3 _ rfl; (with_reducible repeat (first | refine blk_drewN ?_ _ | refine blk_drew ?_ | refine blk_alloc ?_ _)); refine blk_put (cs := #[.int .i64 ((rd_T23 t145 a1).f0), .int .i64 ((rd_T23 t145 a1).f1), .int .i64 0, .int .i64 0, .int .i64 0, .int .i64 0, .int .i64 0, .string (⟨#[]⟩ : ByteArray)]) ?_ 2 _ rfl; (with_reducible repeat (first | refine blk_drewN ?_ _ | refine blk_drew ?_ | refine blk_alloc ?_ _)); refine blk_put (cs := #[.int .i64 ((rd_T23 t145 a1).f0), .int .i64 0, .int .i64 0, .int .i64 0, .int .i64 0, .int .i64 0, .int .i64 0, .string (⟨#[]⟩ : ByteArray)]) ?_ 1 _ rfl; (with_reducible repeat (first | refine blk_drewN ?_ _ | refine blk_drew ?_ | refine blk_alloc ?_ _)); refine blk_put (cs := #[.int .i64 0, .int .i64 0, .int .i64 0, .int .i64 0, .int .i64 0, .int .i64 0, .int .i64 0, .string (⟨#[]⟩ : ByteArray)]) ?_ 0 _ rfl; (with_reducible repeat (first | refine blk_drewN ?_ _ | refine blk_drew ?_ | refine blk_alloc ?_ _)); exact BK149.out⟩
        have n5_ : Aside0 (Below w.heap.size w ((((((((w46.setCell ⟨gb149, 0, none⟩ (.int .i64 ((rd_T23 t145 a1).f0))).setCell ⟨gb149, 1, none⟩ (.int .i64 ((rd_T23 t145 a1).f1))).setCell ⟨gb149, 2, none⟩ (.int .i64 ((rd_T23 t145 a1).f2))).setCell ⟨gb149, 3, none⟩ (.int .i64 ((rd_T23 t145 a1).f3))).setCell ⟨gb149, 4, none⟩ (.int .i64 ((rd_T23 t145 a1).f4))).setCell ⟨gb149, 5, none⟩ (.int .i64 ((rd_T23 t145 a1).f5))).setCell ⟨gb149, 6, none⟩ (.int .i64 ((rd_T23 t145 a1).f6))).setCell ⟨gb149, 7, none⟩ (.string ((rd_T23 t145 a1).f7)))) := ⟨by repeat (first | (with_reducible first | exact HB.out | apply below_alloc | apply pw_below_drewN | apply below_drew1 | refine below_set ?_ GE142.out | refine below_set ?_ GE143.out | refine below_set ?_ GE144.out | refine below_set ?_ GE149.out) | exact HB.out)⟩
        (try clear HO147)
        (try clear BK142)
        (try clear BK143)
        (try clear BK144)
        (try clear BK149)
        (try clear HB)
        generalize ((((((((w46.setCell ⟨gb149, 0, none⟩ (.int .i64 ((rd_T23 t145 a1).f0))).setCell ⟨gb149, 1, none⟩ (.int .i64 ((rd_T23 t145 a1).f1))).setCell ⟨gb149, 2, none⟩ (.int .i64 ((rd_T23 t145 a1).f2))).setCell ⟨gb149, 3, none⟩ (.int .i64 ((rd_T23 t145 a1).f3))).setCell ⟨gb149, 4, none⟩ (.int .i64 ((rd_T23 t145 a1).f4))).setCell ⟨gb149, 5, none⟩ (.int .i64 ((rd_T23 t145 a1).f5))).setCell ⟨gb149, 6, none⟩ (.int .i64 ((rd_T23 t145 a1).f6))).setCell ⟨gb149, 7, none⟩ (.string ((rd_T23 t145 a1).f7))) = w51 at n0_ n1_ n2_ n3_ n4_ n5_ ⊢
        have HO147 := n0_
        have BK142 := n1_
        have BK143 := n2_
        have BK144 := n3_
        have BK149 := n4_
        have HB := n5_
        clear n0_ n1_ n2_ n3_ n4_ n5_
        have n0_ := Aside0.mk (Kd.R_drew HO147.out)
        have n1_ := Aside0.mk (blk_drew BK142.out)
        have n2_ := Aside0.mk (blk_drew BK143.out)
        have n3_ := Aside0.mk (blk_drew BK144.out)
        have n4_ := Aside0.mk (blk_drew BK149.out)
        have n5_ := Aside0.mk (below_drew1 HB.out)
        clear HO147
        clear BK142
        clear BK143
        clear BK144
        clear BK149
        clear HB
        have HO147 := n0_
        have BK142 := n1_
        have BK143 := n2_
        have BK144 := n3_
        have BK149 := n4_
        have HB := n5_
        clear n0_ n1_ n2_ n3_ n4_ n5_
        have q53 : (a1 : Int) ≤ ((t145.length : Int) : Int) := of_decide_eq_true (by first | (with_reducible assumption) | assumption)
        obtain ⟨i053, hi053, _, hsz53, _⟩ := info_parts info23
        have hroom53 : t145.length ≤ co44 := (Kd.R_reads' HO147.out).2.1
        have hC53 : Kd.C k23 _ (some ad148) t145.length t145 := (Kd.R_reads' HO147.out).2.2
        have hcut53 := Cut3.cut_to3 (P := Try.prog) 24 23 .i64 .i64 Try.underlying24 hi053 (some ad148) t145.length co44 a1 (of_decide_eq_true (by first | (with_reducible assumption) | assumption)) q53 hroom53
        have hr53 := Kd.C_take (m := (a1 : Int).toNat) hC53 (by omega)
        have hy53 : y150.length = (a1 : Int).toNat := (by rw [Ny150.out, List.length_take]; omega)
        rw [← Ny150.out] at hr53
        rw [← hy53] at hcut53
        have HR153 := Aside0.mk hr53
        have HC153 := Aside0.mk (show y150.length ≤ co44 from by omega)
        clear hr53 hC53 hroom53 hi053 hsz53
        have KY53 := Aside0.mk hy53
        clear hy53
        have KL53 := Aside0.mk (show (a1 : Int).toNat ≤ t145.length from by omega)
        replace q53 := eq_true q53
        have q54 : ((ji34) : Int) ≤ ((t145.length : Int) : Int) := of_decide_eq_true (by first | (with_reducible assumption) | assumption)
        obtain ⟨i054, hi054, _, hsz54, _⟩ := info_parts info23
        have hroom54 : t145.length ≤ co44 := (Kd.R_reads' HO147.out).2.1
        have hC54 : Kd.C k23 _ (some ad148) t145.length t145 := (Kd.R_reads' HO147.out).2.2
        have q054 : (0 : Int) ≤ ((ji34) : Int) := of_decide_eq_true (by first | (with_reducible assumption) | assumption)
        have hcut54 := cut_from (P := Try.prog) 24 23 .i64 Try.underlying24 hi054 8 hsz54 (some ad148) t145.length co44 (ji34) q054 q54
        have hr54 := Kd.C_drop (m := ((ji34) : Int).toNat) (c := co44) hC54 (by omega) hroom54
        obtain ⟨A54, hA54⟩ : ∃ A1, A1 = (if co44 = ((ji34) : Int).toNat then (some ad148) else ((some ad148) : Option Addr).map (·.add (((ji34) : Int).toNat * 8))) := ⟨_, rfl⟩
        obtain ⟨c54, hc54⟩ : ∃ c1, c1 = co44 - ((ji34) : Int).toNat := ⟨_, rfl⟩
        have hy54 : y154.length = t145.length - ((ji34) : Int).toNat := (by rw [Ny154.out, List.length_drop] <;> omega)
        rw [show (t145).drop ((ji34) : Int).toNat = y154 from Ny154.out.symm] at hr54
        replace hr54 : Kd.C k23 _ A54 y154.length y154 := (by rw [hA54]; exact hr54)
        rw [← hy54, ← hA54, ← hc54] at hcut54
        have HR157 := Aside0.mk hr54
        have HC157 := Aside0.mk (show y154.length ≤ c54 from by rw [hy54, hc54]; exact Nat.sub_le_sub_right hroom54 _)
        clear hr54 hC54 hroom54 hi054 hsz54 hc54
        have KY54 := Aside0.mk hy54
        have KA54 := Aside0.mk hA54
        clear hy54 hA54
        have KL54 := Aside0.mk (show ((ji34) : Int).toNat ≤ t145.length from by omega)
        replace q54 := eq_true q54
        obtain ⟨go56, co56, eo56, gb56, gl56, cl56, HG56⟩ := Kd.R_form HO147.out (by have hj_ : 0 ≤ (a1 : Int) := of_decide_eq_true (by first | (with_reducible assumption) | assumption); have hl_ : (ji34 : Int) ≤ (t145.length : Int) := of_decide_eq_true (by first | (with_reducible assumption) | assumption); have hh_ : (a1 : Int) ≤ (t145.length : Int) := of_decide_eq_true (by first | (with_reducible assumption) | assumption); rw [← hji34] at hl_; unfold wrap64 at hl_; omega)
        (first | cases eo56 | (injection eo56 with ea_ en_ ec_; (first | subst ea_ | (injection ea_ with ea_; subst ea_)); subst ec_; clear en_))
        have GB56 := Aside0.mk gb56
        have GG56 := Aside0.mk HG56
        clear gb56 gl56 HG56
        (first | simp only [add_plain] at hx148_0 | skip)
        (first | simp only [add_plain] at hx148_1 | skip)
        (first | simp only [add_plain] at hx148_2 | skip)
        (first | simp only [add_plain] at hx148_3 | skip)
        (first | simp only [add_plain] at hx148_4 | skip)
        (first | simp only [add_plain] at hx148_5 | skip)
        (first | simp only [add_plain] at hx148_6 | skip)
        (first | simp only [add_plain] at hx148_7 | skip)
        refine start_ (n := 13) (S := fun w' => w'.cell? ⟨gb142, 0, none⟩ = some (.slice (some ⟨go56, 0, none⟩) t145.length co44)) (ds := [12]) #[false, false, false, false, false, false, false, false, false, false, false, false, false] (by kernel_rfl) rfl rfl ((blk_cell BK142.out 0).trans rfl) (fun hHeld => ?_); refine with_tabW net_Give.tab5 net_Give.bits5 (fun HT_ HW_ => ?_)
        generalize w51.drew = w52 at HO147 BK142 BK143 BK144 BK149 HB GG56 HR153 HR157 hx148_0 hx148_1 hx148_2 hx148_3 hx148_4 hx148_5 hx148_6 hx148_7 hHeld ⊢
        refine pure_ (i := 0) (N := some 26) (v := ?_) (a' := ?_) #[true, false, false, false, false, false, false, false, false, false, false, false, false] rfl rfl (any_of HT_.out (by kernel_rfl)) (fun _ _ _ h => h) (Or.inl ⟨by rfl, ?_⟩) ?_ ?_
        rotate_left
        ·intro w'
         go_simp
         with_reducible rfl
        rotate_left
        ·simp only [Act.put, List.setIfInBounds_toArray, List.set_cons_zero, List.set_cons_succ, i64_w, i32_w]
         rfl
        refine pure_ (i := 2) (N := some 28) (v := ?_) (a' := ?_) #[true, false, true, false, false, false, false, false, false, false, false, false, false] rfl rfl (any_of HT_.out (by kernel_rfl)) (fun _ _ _ h => h) (Or.inl ⟨by rfl, ?_⟩) ?_ ?_
        rotate_left
        ·intro w'
         go_simp
         with_reducible rfl
        rotate_left
        ·simp only [Act.put, List.setIfInBounds_toArray, List.set_cons_zero, List.set_cons_succ, i64_w, i32_w]
         rfl
        refine pure_ (i := 3) (N := some 29) (v := ?_) (a' := ?_) #[true, false, true, true, false, false, false, false, false, false, false, false, false] rfl rfl (any_of HT_.out (by kernel_rfl)) (fun _ _ _ h => h) (Or.inl ⟨by rfl, ?_⟩) ?_ ?_
        rotate_left
        ·intro w'
         go_simp
         with_reducible rfl
        rotate_left
        ·simp only [Act.put, List.setIfInBounds_toArray, List.set_cons_zero, List.set_cons_succ, i64_w, i32_w]
         rfl
        refine pure_ (i := 5) (N := some 31) (v := ?_) (a' := ?_) #[true, false, true, true, false, true, false, false, false, false, false, false, false] rfl rfl (any_of HT_.out (by kernel_rfl)) (fun _ _ _ h => h) (Or.inl ⟨by rfl, ?_⟩) ?_ ?_
        rotate_left
        ·intro w'
         go_simp
         with_reducible rfl
        rotate_left
        ·simp only [Act.put, List.setIfInBounds_toArray, List.set_cons_zero, List.set_cons_succ, i64_w, i32_w]
         rfl
        refine pure_ (i := 7) (N := some 33) (v := ?_) (a' := ?_) #[true, false, true, true, false, true, false, true, false, false, false, false, false] rfl rfl (any_of HT_.out (by kernel_rfl)) (fun _ _ _ h => h) (Or.inl ⟨by rfl, ?_⟩) ?_ ?_
        rotate_left
        ·intro w'
         go_simp
         with_reducible rfl
        rotate_left
        ·simp only [Act.put, List.setIfInBounds_toArray, List.set_cons_zero, List.set_cons_succ, i64_w, i32_w]
         rfl
        refine pure_ (i := 8) (N := some 34) (v := ?_) (a' := ?_) #[true, false, true, true, false, true, false, true, true, false, false, false, false] rfl rfl (any_of HT_.out (by kernel_rfl)) (fun _ _ _ h => h) (Or.inl ⟨by rfl, ?_⟩) ?_ ?_
        rotate_left
        ·intro w'
         go_simp
         with_reducible rfl
        rotate_left
        ·simp only [Act.put, List.setIfInBounds_toArray, List.set_cons_zero, List.set_cons_succ, i64_w, i32_w]
         rfl
        refine take_ (i := 1) (N := some 27) (v := ?_) (a' := ?_) #[true, true, true, true, false, true, false, true, true, false, false, false, false] rfl rfl (take_ofW HT_.out HW_.out (by kernel_rfl)) (fun _ _ _ h => h) (Or.inl ⟨by rfl, ?_⟩) hHeld ?_ ?_
        rotate_left
        ·intro w' s0
         go_simp
         with_reducible rfl
        rotate_left
        ·simp only [Act.put, List.setIfInBounds_toArray, List.set_cons_zero, List.set_cons_succ, i64_w, i32_w]
         rfl
        refine pure_ (i := 4) (N := some 30) (v := ?_) (a' := ?_) #[true, true, true, true, true, true, false, true, true, false, false, false, false] rfl rfl (any_of HT_.out (by kernel_rfl)) (fun _ _ _ h => h) (Or.inl ⟨by rfl, ?_⟩) ?_ ?_
        rotate_left
        ·intro w'
         go_simp
         with_reducible rfl
        rotate_left
        ·simp only [Act.put, List.setIfInBounds_toArray, List.set_cons_zero, List.set_cons_succ, i64_w, i32_w]
         rfl
        refine take_ (i := 6) (N := some 32) (v := ?_) (a' := ?_) #[true, true, true, true, true, true, true, true, true, false, false, false, false] rfl rfl (take_ofW HT_.out HW_.out (by kernel_rfl)) (fun _ _ _ h => h) (Or.inl ⟨by rfl, ?_⟩) hHeld ?_ ?_
        rotate_left
        ·intro w' s0
         go_simp
         with_reducible rfl
        rotate_left
        ·simp only [Act.put, List.setIfInBounds_toArray, List.set_cons_zero, List.set_cons_succ, i64_w, i32_w]
         rfl
        refine pure_ (i := 9) (N := some 35) (v := ?_) (a' := ?_) #[true, true, true, true, true, true, true, true, true, true, false, false, false] rfl rfl (any_of HT_.out (by kernel_rfl)) (fun _ _ _ h => h) (Or.inl ⟨by rfl, ?_⟩) ?_ ?_
        rotate_left
        ·intro w'
         go_simp
         with_reducible rfl
        rotate_left
        ·simp only [Act.put, List.setIfInBounds_toArray, List.set_cons_zero, List.set_cons_succ, i64_w, i32_w]
         rfl
        refine one_ (i := 10) (N := some 36) #[true, true, true, true, true, true, true, true, true, true, true, false, false] rfl rfl (one_of HT_.out (by kernel_rfl)) (by decide) (fun K hK => ?_)
        have hj_ : 0 ≤ (a1 : Int) := of_decide_eq_true (by first | (with_reducible assumption) | assumption)
        have hl_ : (ji34 : Int) ≤ (t145.length : Int) := of_decide_eq_true (by first | (with_reducible assumption) | assumption)
        have hh_ : (a1 : Int) ≤ (t145.length : Int) := of_decide_eq_true (by first | (with_reducible assumption) | assumption)
        have hb_ := (Kd.R_reads' HO147.out).2.2.2.1
        have h0_ : (0 : Int) ≤ (ji34 : Int) := of_decide_eq_true (by first | (with_reducible assumption) | assumption)
        have hy1_ := KY53.out
        have hk_ : (ji34 : Int).toNat = y150.length + 1 := (by have hw_ : (ji34 : Int) = a1 + 1 := (by have h00_ := h0_; rw [← hji34] at h00_ ⊢; unfold wrap64 at h00_ ⊢; omega); rw [hw_]; omega)
        refine Cut3.cut3_step k23 (w0 := w) w.heap.size (by rfl) (.tmp 30) (.tmp 35) 24 23 _ 72 rfl Try.underlying24 info23 rfl (by decide) rfl (fun _ _ _ _ _ _ _ _ h => h) (g := go56) (n := t145.length) (c := co44) (k := y150.length) rfl rfl ?hA ?hm (by (with_reducible repeat (first | apply Kd.R_alloc | apply Kd.R_drewN | apply Kd.R_drew)); exact HO147.out) ?hk ?hl (by repeat (first | (with_reducible first | exact HB.out | apply below_alloc | apply pw_below_drewN | apply below_drew1 | refine below_set ?_ GE142.out | refine below_set ?_ GE143.out | refine below_set ?_ GE144.out | refine below_set ?_ GE149.out) | exact HB.out)) (below_size (by repeat (first | (with_reducible first | exact HB.out | apply below_alloc | apply pw_below_drewN | apply below_drew1 | refine below_set ?_ GE142.out | refine below_set ?_ GE143.out | refine below_set ?_ GE144.out | refine below_set ?_ GE149.out) | exact HB.out))) ?_
        (case hA => have ha_ := KA54.out; rw [hk_] at ha_; exact ha_)
        (case hm => have ha_ := KY54.out; omega)
        (case hk => omega)
        (case hl => have hl2_ := LIMA.out; omega)
        intro v55 w55 ho hb hg
        clear hj_ hl_ hh_ hb_ hk_ h0_
        rw [hy1_, ← Ny158.out] at ho
        clear hy1_
        obtain ⟨Av55, cv55, ev55⟩ := Kd.V_slice ho
        subst ev55
        have e142 := Kd.R_ne HO147.out BK142.out (by decide)
        have e143 := Kd.R_ne HO147.out BK143.out (by decide)
        have e144 := Kd.R_away HO147.out (fun _ hk => hk.1)
        have e149 := Kd.R_away HO147.out (fun _ hk => hk.2)
        simp only [Value.ownBlock, ne_eq, Option.some.injEq] at e142 e143 e144 e149
        have l142 := blk_lt BK142.out
        have l143 := blk_lt BK143.out
        have l144 := blk_lt BK144.out
        have l149 := blk_lt BK149.out
        have lb := GB56.out
        have lw := below_size HB.out
        replace ho : Kd.V k23 23 w55 w.heap.size (fun k_ => k_ ≠ gb142 ∧ k_ ≠ gb143 ∧ k_ ≠ gb144 ∧ k_ ≠ gb149 ∧ w.heap.size ≤ k_) (.slice Av55 y158.length cv55) y158 := Kd.V_mono ho (fun q hq => by rcases hq with rfl | hq <;> exact ⟨by omega, by omega, by omega, by omega, by omega⟩)
        clear e142 e143 e144 e149 l142 l143 l144 l149 lb lw
        have n0_ := Aside0.mk (blk_grown (g := gb142) (o := .cells #[.slice (some ⟨go56, 0, none⟩) t145.length co44] 26 (0, 0)) (by (with_reducible repeat (first | refine blk_drewN ?_ _ | refine blk_drew ?_ | refine blk_alloc ?_ _)); exact BK142.out) hg (by simp))
        have n1_ := Aside0.mk (blk_grown (g := gb143) (o := .cells #[.slice none 0 0] 26 (0, 0)) (by (with_reducible repeat (first | refine blk_drewN ?_ _ | refine blk_drew ?_ | refine blk_alloc ?_ _)); exact BK143.out) hg (by simp))
        have n2_ := Aside0.mk (blk_grown (g := gb144) (o := .cells #[.int .i64 0, .int .i64 0, .int .i64 0, .int .i64 0, .int .i64 0, .int .i64 0, .int .i64 0, .string (⟨#[]⟩ : ByteArray)] 23 (0, 0)) (by (with_reducible repeat (first | refine blk_drewN ?_ _ | refine blk_drew ?_ | refine blk_alloc ?_ _)); exact BK144.out) hg (by simp))
        have n3_ := Aside0.mk (ho)
        have n4_ := Aside0.mk (blk_grown (g := gb149) (o := .cells #[.int .i64 ((rd_T23 t145 a1).f0), .int .i64 ((rd_T23 t145 a1).f1), .int .i64 ((rd_T23 t145 a1).f2), .int .i64 ((rd_T23 t145 a1).f3), .int .i64 ((rd_T23 t145 a1).f4), .int .i64 ((rd_T23 t145 a1).f5), .int .i64 ((rd_T23 t145 a1).f6), .string ((rd_T23 t145 a1).f7)] 23 (0, 0)) (by (with_reducible repeat (first | refine blk_drewN ?_ _ | refine blk_drew ?_ | refine blk_alloc ?_ _)); exact BK149.out) hg (by simp))
        have n5_ := Aside0.mk (hb)
        clear BK142
        clear BK143
        clear BK144
        clear HO147
        clear BK149
        clear HB
        have BK142 := n0_
        have BK143 := n1_
        have BK144 := n2_
        have HO147 := n3_
        have BK149 := n4_
        have HB := n5_
        clear n0_ n1_ n2_ n3_ n4_ n5_
        clear ho hb hg
        refine hK.out _ _ ((blk_cell BK142.out 0).trans rfl) (fun hHeld => ?_)
        clear hK K
        refine norm_ (a' := ?_) ?_ ?_
        rotate_left
        ·show Act.put _ (some 36) _ = _
         simp only [Act.put, List.setIfInBounds_toArray, List.set_cons_zero, List.set_cons_succ, i64_w, i32_w]
         rfl
        refine pure_ (i := 11) (N := some 37) (v := ?_) (a' := ?_) #[true, true, true, true, true, true, true, true, true, true, true, true, false] rfl rfl (any_of HT_.out (by kernel_rfl)) (fun _ _ _ h => h) (Or.inl ⟨by rfl, ?_⟩) ?_ ?_
        rotate_left
        ·intro w'
         go_simp
         with_reducible rfl
        rotate_left
        ·simp only [Act.put, List.setIfInBounds_toArray, List.set_cons_zero, List.set_cons_succ, i64_w, i32_w]
         rfl
        refine last_ (i := 12) (N := none) #[true, true, true, true, true, true, true, true, true, true, true, true, true] rfl rfl (one_of HT_.out (by kernel_rfl)) (by decide) (fun K hK => ?_)
        have hs57 : w55.cell? ⟨gb142, 0, none⟩ = some (.slice (some ⟨go56, 0, none⟩) t145.length co44) := (blk_cell BK142.out 0).trans rfl
        have hfs57 := blk_frozen BK142.out 0
        have hns57_1 := NB143_142.out
        have hns57_2 := NB144_142.out
        have hns57_3 := NB149_142.out
        have hms57_1 := NB142_143.out
        have hms57_2 := NB142_144.out
        have hms57_3 := NB142_149.out
        refine skip_ (w1 := ?_) (by rfl) rfl ?_ ?_
        rotate_left
        ·go_simp
         rfl
        refine hK.out _ _ ?_
        clear hK K
        refine done_ (done_of HT_.out (by kernel_rfl)) ?_
        try go_wp2
        have n0_ : Aside0 (Kd.V k23 23 (w55.setCell ⟨gb142, 0, none⟩ (.slice Av55 y158.length cv55)) w.heap.size (fun k_ => k_ ≠ gb142 ∧ k_ ≠ gb143 ∧ k_ ≠ gb144 ∧ k_ ≠ gb149 ∧ w.heap.size ≤ k_) (.slice Av55 y158.length cv55) y158) := ⟨Kd.V_far (p := ⟨gb142, 0, none⟩) HO147.out (fun _ hk => hk.1) (.slice Av55 y158.length cv55)⟩
        have n1_ : Aside0 ((w55.setCell ⟨gb142, 0, none⟩ (.slice Av55 y158.length cv55)).heap[gb142]? = some (.cells #[.slice Av55 y158.length cv55] 26 (0, 0))) := ⟨by (with_reducible repeat (first | refine blk_drewN ?_ _ | refine blk_drew ?_ | refine blk_alloc ?_ _)); refine blk_put (cs := #[.slice (some ⟨go56, 0, none⟩) t145.length co44]) ?_ 0 _ rfl; (with_reducible repeat (first | refine blk_drewN ?_ _ | refine blk_drew ?_ | refine blk_alloc ?_ _)); exact BK142.out⟩
        have n2_ : Aside0 ((w55.setCell ⟨gb142, 0, none⟩ (.slice Av55 y158.length cv55)).heap[gb143]? = some (.cells #[.slice none 0 0] 26 (0, 0))) := ⟨by (with_reducible repeat (first | refine blk_drewN ?_ _ | refine blk_drew ?_ | refine blk_alloc ?_ _)); refine blk_far ?_ NB143_142.out _; (with_reducible repeat (first | refine blk_drewN ?_ _ | refine blk_drew ?_ | refine blk_alloc ?_ _)); exact BK143.out⟩
        have n3_ : Aside0 ((w55.setCell ⟨gb142, 0, none⟩ (.slice Av55 y158.length cv55)).heap[gb144]? = some (.cells #[.int .i64 0, .int .i64 0, .int .i64 0, .int .i64 0, .int .i64 0, .int .i64 0, .int .i64 0, .string (⟨#[]⟩ : ByteArray)] 23 (0, 0))) := ⟨by (with_reducible repeat (first | refine blk_drewN ?_ _ | refine blk_drew ?_ | refine blk_alloc ?_ _)); refine blk_far ?_ NB144_142.out _; (with_reducible repeat (first | refine blk_drewN ?_ _ | refine blk_drew ?_ | refine blk_alloc ?_ _)); exact BK144.out⟩
        have n4_ : Aside0 ((w55.setCell ⟨gb142, 0, none⟩ (.slice Av55 y158.length cv55)).heap[gb149]? = some (.cells #[.int .i64 ((rd_T23 t145 a1).f0), .int .i64 ((rd_T23 t145 a1).f1), .int .i64 ((rd_T23 t145 a1).f2), .int .i64 ((rd_T23 t145 a1).f3), .int .i64 ((rd_T23 t145 a1).f4), .int .i64 ((rd_T23 t145 a1).f5), .int .i64 ((rd_T23 t145 a1).f6), .string ((rd_T23 t145 a1).f7)] 23 (0, 0))) := ⟨by (with_reducible repeat (first | refine blk_drewN ?_ _ | refine blk_drew ?_ | refine blk_alloc ?_ _)); refine blk_far ?_ NB149_142.out _; (with_reducible repeat (first | refine blk_drewN ?_ _ | refine blk_drew ?_ | refine blk_alloc ?_ _)); exact BK149.out⟩
        have n5_ : Aside0 (Below w.heap.size w (w55.setCell ⟨gb142, 0, none⟩ (.slice Av55 y158.length cv55))) := ⟨by repeat (first | (with_reducible first | exact HB.out | apply below_alloc | apply pw_below_drewN | apply below_drew1 | refine below_set ?_ GE142.out | refine below_set ?_ GE143.out | refine below_set ?_ GE144.out | refine below_set ?_ GE149.out) | exact HB.out)⟩
        (try clear HO147)
        (try clear BK142)
        (try clear BK143)
        (try clear BK144)
        (try clear BK149)
        (try clear HB)
        generalize (w55.setCell ⟨gb142, 0, none⟩ (.slice Av55 y158.length cv55)) = w58 at n0_ n1_ n2_ n3_ n4_ n5_ ⊢
        have HO147 := n0_
        have BK142 := n1_
        have BK143 := n2_
        have BK144 := n3_
        have BK149 := n4_
        have HB := n5_
        clear n0_ n1_ n2_ n3_ n4_ n5_
        have n0_ := Aside0.mk (Kd.V_drew HO147.out)
        have n1_ := Aside0.mk (blk_drew BK142.out)
        have n2_ := Aside0.mk (blk_drew BK143.out)
        have n3_ := Aside0.mk (blk_drew BK144.out)
        have n4_ := Aside0.mk (blk_drew BK149.out)
        have n5_ := Aside0.mk (below_drew1 HB.out)
        clear HO147
        clear BK142
        clear BK143
        clear BK144
        clear BK149
        clear HB
        have HO147 := n0_
        have BK142 := n1_
        have BK143 := n2_
        have BK144 := n3_
        have BK149 := n4_
        have HB := n5_
        clear n0_ n1_ n2_ n3_ n4_ n5_
        refine start_ (n := 5) (S := fun w' => w'.cell? ⟨gb142, 0, none⟩ = some (.slice Av55 y158.length cv55) ∧ w'.cell? ⟨gb149, 0, none⟩ = some (.int .i64 ((rd_T23 t145 a1).f0)) ∧ w'.cell? ⟨gb149, 1, none⟩ = some (.int .i64 ((rd_T23 t145 a1).f1)) ∧ w'.cell? ⟨gb149, 2, none⟩ = some (.int .i64 ((rd_T23 t145 a1).f2)) ∧ w'.cell? ⟨gb149, 3, none⟩ = some (.int .i64 ((rd_T23 t145 a1).f3)) ∧ w'.cell? ⟨gb149, 4, none⟩ = some (.int .i64 ((rd_T23 t145 a1).f4)) ∧ w'.cell? ⟨gb149, 5, none⟩ = some (.int .i64 ((rd_T23 t145 a1).f5)) ∧ w'.cell? ⟨gb149, 6, none⟩ = some (.int .i64 ((rd_T23 t145 a1).f6)) ∧ w'.cell? ⟨gb149, 7, none⟩ = some (.string ((rd_T23 t145 a1).f7))) (ds := []) #[false, false, false, false, false] (by kernel_rfl) rfl rfl ⟨(blk_cell BK142.out 0).trans rfl, (blk_cell BK149.out 0).trans rfl, (blk_cell BK149.out 1).trans rfl, (blk_cell BK149.out 2).trans rfl, (blk_cell BK149.out 3).trans rfl, (blk_cell BK149.out 4).trans rfl, (blk_cell BK149.out 5).trans rfl, (blk_cell BK149.out 6).trans rfl, (blk_cell BK149.out 7).trans rfl⟩ (fun hHeld => ?_)
        generalize w58.drew = w59 at HO147 BK142 BK143 BK144 BK149 HB hHeld ⊢
        refine take_ (i := 0) (N := some 38) (v := ?_) (a' := ?_) #[true, false, false, false, false] rfl rfl (by kernel_rfl) (fun _ _ _ h => h) (Or.inl ⟨by rfl, ?_⟩) hHeld ?_ ?_
        rotate_left
        ·rintro w' ⟨s0, s1, s2, s3, s4, s5, s6, s7, s8⟩
         go_simp
         with_reducible rfl
        rotate_left
        ·simp only [Act.put, List.setIfInBounds_toArray, List.set_cons_zero, List.set_cons_succ, i64_w, i32_w]
         rfl
        refine take_ (i := 1) (N := some 39) (v := ?_) (a' := ?_) #[true, true, false, false, false] rfl rfl (by kernel_rfl) (fun _ _ _ h => h) (Or.inl ⟨by rfl, ?_⟩) hHeld ?_ ?_
        rotate_left
        ·rintro w' ⟨s0, s1, s2, s3, s4, s5, s6, s7, s8⟩
         go_simp
         with_reducible rfl
        rotate_left
        ·simp only [Act.put, List.setIfInBounds_toArray, List.set_cons_zero, List.set_cons_succ, i64_w, i32_w]
         rfl
        refine one_ (i := 2) (N := none) #[true, true, true, false, false] rfl rfl (by kernel_rfl) (by decide) (fun K hK => ?_)
        have hs60 : w59.cell? ⟨gb143, 0, none⟩ = some (.slice none 0 0) := (blk_cell BK143.out 0).trans rfl
        have hfs60 := blk_frozen BK143.out 0
        have hns60_0 := NB142_143.out
        have hns60_2 := NB144_143.out
        have hns60_3 := NB149_143.out
        have hms60_0 := NB143_142.out
        have hms60_2 := NB143_144.out
        have hms60_3 := NB143_149.out
        refine skip_ (w1 := ?_) (by rfl) rfl ?_ ?_
        rotate_left
        ·go_simp
         rfl
        refine hK.out _ _ ⟨((cell_far (p := ⟨gb143, _, none⟩) NB142_143.out _).trans (hHeld.1)), ((cell_far (p := ⟨gb143, _, none⟩) NB149_143.out _).trans (hHeld.2.1)), ((cell_far (p := ⟨gb143, _, none⟩) NB149_143.out _).trans (hHeld.2.2.1)), ((cell_far (p := ⟨gb143, _, none⟩) NB149_143.out _).trans (hHeld.2.2.2.1)), ((cell_far (p := ⟨gb143, _, none⟩) NB149_143.out _).trans (hHeld.2.2.2.2.1)), ((cell_far (p := ⟨gb143, _, none⟩) NB149_143.out _).trans (hHeld.2.2.2.2.2.1)), ((cell_far (p := ⟨gb143, _, none⟩) NB149_143.out _).trans (hHeld.2.2.2.2.2.2.1)), ((cell_far (p := ⟨gb143, _, none⟩) NB149_143.out _).trans (hHeld.2.2.2.2.2.2.2.1)), ((cell_far (p := ⟨gb143, _, none⟩) NB149_143.out _).trans (hHeld.2.2.2.2.2.2.2.2))⟩ (fun hHeld => ?_)
        clear hK K
        refine one_ (i := 3) (N := none) #[true, true, true, true, false] rfl rfl (by kernel_rfl) (by decide) (fun K hK => ?_)
        have hs61 : w59.cell? ⟨gb144, 0, none⟩ = some (.int .i64 0) := (blk_cell BK144.out 0).trans rfl
        have hfs61 := blk_frozen BK144.out 0
        have hns61_0 := NB142_144.out
        have hns61_1 := NB143_144.out
        have hns61_3 := NB149_144.out
        have hms61_0 := NB144_142.out
        have hms61_1 := NB144_143.out
        have hms61_3 := NB144_149.out
        have hs62 : w59.cell? ⟨gb144, 1, none⟩ = some (.int .i64 0) := (blk_cell BK144.out 1).trans rfl
        have hfs62 := blk_frozen BK144.out 1
        have hns62_0 := NB142_144.out
        have hns62_1 := NB143_144.out
        have hns62_3 := NB149_144.out
        have hms62_0 := NB144_142.out
        have hms62_1 := NB144_143.out
        have hms62_3 := NB144_149.out
        have hs63 : w59.cell? ⟨gb144, 2, none⟩ = some (.int .i64 0) := (blk_cell BK144.out 2).trans rfl
        have hfs63 := blk_frozen BK144.out 2
        have hns63_0 := NB142_144.out
        have hns63_1 := NB143_144.out
        have hns63_3 := NB149_144.out
        have hms63_0 := NB144_142.out
        have hms63_1 := NB144_143.out
        have hms63_3 := NB144_149.out
        have hs64 : w59.cell? ⟨gb144, 3, none⟩ = some (.int .i64 0) := (blk_cell BK144.out 3).trans rfl
        have hfs64 := blk_frozen BK144.out 3
        have hns64_0 := NB142_144.out
        have hns64_1 := NB143_144.out
        have hns64_3 := NB149_144.out
        have hms64_0 := NB144_142.out
        have hms64_1 := NB144_143.out
        have hms64_3 := NB144_149.out
        have hs65 : w59.cell? ⟨gb144, 4, none⟩ = some (.int .i64 0) := (blk_cell BK144.out 4).trans rfl
        have hfs65 := blk_frozen BK144.out 4
        have hns65_0 := NB142_144.out
        have hns65_1 := NB143_144.out
        have hns65_3 := NB149_144.out
        have hms65_0 := NB144_142.out
        have hms65_1 := NB144_143.out
        have hms65_3 := NB144_149.out
        have hs66 : w59.cell? ⟨gb144, 5, none⟩ = some (.int .i64 0) := (blk_cell BK144.out 5).trans rfl
        have hfs66 := blk_frozen BK144.out 5
        have hns66_0 := NB142_144.out
        have hns66_1 := NB143_144.out
        have hns66_3 := NB149_144.out
        have hms66_0 := NB144_142.out
        have hms66_1 := NB144_143.out
        have hms66_3 := NB144_149.out
        have hs67 : w59.cell? ⟨gb144, 6, none⟩ = some (.int .i64 0) := (blk_cell BK144.out 6).trans rfl
        have hfs67 := blk_frozen BK144.out 6
        have hns67_0 := NB142_144.out
        have hns67_1 := NB143_144.out
        have hns67_3 := NB149_144.out
        have hms67_0 := NB144_142.out
        have hms67_1 := NB144_143.out
        have hms67_3 := NB144_149.out
        have hs68 : w59.cell? ⟨gb144, 7, none⟩ = some (.string (⟨#[]⟩ : ByteArray)) := (blk_cell BK144.out 7).trans rfl
        have hfs68 := blk_frozen BK144.out 7
        have hns68_0 := NB142_144.out
        have hns68_1 := NB143_144.out
        have hns68_3 := NB149_144.out
        have hms68_0 := NB144_142.out
        have hms68_1 := NB144_143.out
        have hms68_3 := NB144_149.out
        refine skip_ (w1 := ?_) (by rfl) rfl ?_ ?_
        rotate_left
        ·go_simp
         rfl
        refine hK.out _ _ ⟨((cell_far (p := ⟨gb144, _, none⟩) NB142_144.out _).trans (((cell_far (p := ⟨gb144, _, none⟩) NB142_144.out _).trans (((cell_far (p := ⟨gb144, _, none⟩) NB142_144.out _).trans (((cell_far (p := ⟨gb144, _, none⟩) NB142_144.out _).trans (((cell_far (p := ⟨gb144, _, none⟩) NB142_144.out _).trans (((cell_far (p := ⟨gb144, _, none⟩) NB142_144.out _).trans (((cell_far (p := ⟨gb144, _, none⟩) NB142_144.out _).trans (((cell_far (p := ⟨gb144, _, none⟩) NB142_144.out _).trans (hHeld.1)))))))))))))))), ((cell_far (p := ⟨gb144, _, none⟩) NB149_144.out _).trans (((cell_far (p := ⟨gb144, _, none⟩) NB149_144.out _).trans (((cell_far (p := ⟨gb144, _, none⟩) NB149_144.out _).trans (((cell_far (p := ⟨gb144, _, none⟩) NB149_144.out _).trans (((cell_far (p := ⟨gb144, _, none⟩) NB149_144.out _).trans (((cell_far (p := ⟨gb144, _, none⟩) NB149_144.out _).trans (((cell_far (p := ⟨gb144, _, none⟩) NB149_144.out _).trans (((cell_far (p := ⟨gb144, _, none⟩) NB149_144.out _).trans (hHeld.2.1)))))))))))))))), ((cell_far (p := ⟨gb144, _, none⟩) NB149_144.out _).trans (((cell_far (p := ⟨gb144, _, none⟩) NB149_144.out _).trans (((cell_far (p := ⟨gb144, _, none⟩) NB149_144.out _).trans (((cell_far (p := ⟨gb144, _, none⟩) NB149_144.out _).trans (((cell_far (p := ⟨gb144, _, none⟩) NB149_144.out _).trans (((cell_far (p := ⟨gb144, _, none⟩) NB149_144.out _).trans (((cell_far (p := ⟨gb144, _, none⟩) NB149_144.out _).trans (((cell_far (p := ⟨gb144, _, none⟩) NB149_144.out _).trans (hHeld.2.2.1)))))))))))))))), ((cell_far (p := ⟨gb144, _, none⟩) NB149_144.out _).trans (((cell_far (p := ⟨gb144, _, none⟩) NB149_144.out _).trans (((cell_far (p := ⟨gb144, _, none⟩) NB149_144.out _).trans (((cell_far (p := ⟨gb144, _, none⟩) NB149_144.out _).trans (((cell_far (p := ⟨gb144, _, none⟩) NB149_144.out _).trans (((cell_far (p := ⟨gb144, _, none⟩) NB149_144.out _).trans (((cell_far (p := ⟨gb144, _, none⟩) NB149_144.out _).trans (((cell_far (p := ⟨gb144, _, none⟩) NB149_144.out _).trans (hHeld.2.2.2.1)))))))))))))))), ((cell_far (p := ⟨gb144, _, none⟩) NB149_144.out _).trans (((cell_far (p := ⟨gb144, _, none⟩) NB149_144.out _).trans (((cell_far (p := ⟨gb144, _, none⟩) NB149_144.out _).trans (((cell_far (p := ⟨gb144, _, none⟩) NB149_144.out _).trans (((cell_far (p := ⟨gb144, _, none⟩) NB149_144.out _).trans (((cell_far (p := ⟨gb144, _, none⟩) NB149_144.out _).trans (((cell_far (p := ⟨gb144, _, none⟩) NB149_144.out _).trans (((cell_far (p := ⟨gb144, _, none⟩) NB149_144.out _).trans (hHeld.2.2.2.2.1)))))))))))))))), ((cell_far (p := ⟨gb144, _, none⟩) NB149_144.out _).trans (((cell_far (p := ⟨gb144, _, none⟩) NB149_144.out _).trans (((cell_far (p := ⟨gb144, _, none⟩) NB149_144.out _).trans (((cell_far (p := ⟨gb144, _, none⟩) NB149_144.out _).trans (((cell_far (p := ⟨gb144, _, none⟩) NB149_144.out _).trans (((cell_far (p := ⟨gb144, _, none⟩) NB149_144.out _).trans (((cell_far (p := ⟨gb144, _, none⟩) NB149_144.out _).trans (((cell_far (p := ⟨gb144, _, none⟩) NB149_144.out _).trans (hHeld.2.2.2.2.2.1)))))))))))))))), ((cell_far (p := ⟨gb144, _, none⟩) NB149_144.out _).trans (((cell_far (p := ⟨gb144, _, none⟩) NB149_144.out _).trans (((cell_far (p := ⟨gb144, _, none⟩) NB149_144.out _).trans (((cell_far (p := ⟨gb144, _, none⟩) NB149_144.out _).trans (((cell_far (p := ⟨gb144, _, none⟩) NB149_144.out _).trans (((cell_far (p := ⟨gb144, _, none⟩) NB149_144.out _).trans (((cell_far (p := ⟨gb144, _, none⟩) NB149_144.out _).trans (((cell_far (p := ⟨gb144, _, none⟩) NB149_144.out _).trans (hHeld.2.2.2.2.2.2.1)))))))))))))))), ((cell_far (p := ⟨gb144, _, none⟩) NB149_144.out _).trans (((cell_far (p := ⟨gb144, _, none⟩) NB149_144.out _).trans (((cell_far (p := ⟨gb144, _, none⟩) NB149_144.out _).trans (((cell_far (p := ⟨gb144, _, none⟩) NB149_144.out _).trans (((cell_far (p := ⟨gb144, _, none⟩) NB149_144.out _).trans (((cell_far (p := ⟨gb144, _, none⟩) NB149_144.out _).trans (((cell_far (p := ⟨gb144, _, none⟩) NB149_144.out _).trans (((cell_far (p := ⟨gb144, _, none⟩) NB149_144.out _).trans (hHeld.2.2.2.2.2.2.2.1)))))))))))))))), ((cell_far (p := ⟨gb144, _, none⟩) NB149_144.out _).trans (((cell_far (p := ⟨gb144, _, none⟩) NB149_144.out _).trans (((cell_far (p := ⟨gb144, _, none⟩) NB149_144.out _).trans (((cell_far (p := ⟨gb144, _, none⟩) NB149_144.out _).trans (((cell_far (p := ⟨gb144, _, none⟩) NB149_144.out _).trans (((cell_far (p := ⟨gb144, _, none⟩) NB149_144.out _).trans (((cell_far (p := ⟨gb144, _, none⟩) NB149_144.out _).trans (((cell_far (p := ⟨gb144, _, none⟩) NB149_144.out _).trans (hHeld.2.2.2.2.2.2.2.2))))))))))))))))⟩ (fun hHeld => ?_)
        clear hK K
        refine pure_ (i := 4) (N := some 6) (v := ?_) (a' := ?_) #[true, true, true, true, true] rfl rfl (by kernel_rfl) (fun _ _ _ h => h) (Or.inl ⟨by rfl, ?_⟩) ?_ ?_
        rotate_left
        ·intro w'
         go_simp
         with_reducible rfl
        rotate_left
        ·simp only [Act.put, List.setIfInBounds_toArray, List.set_cons_zero, List.set_cons_succ, i64_w, i32_w]
         rfl
        refine done_ (by kernel_rfl) ?_
        try go_wp2
        refine bodyPost_ret (results_list (rs := [.cell 4 26, .cell 5 23, .tmp 6]) rfl (by simp) (.cell gb143 26 #[.slice Av55 y158.length cv55] (0, 0) _ rfl (by (with_reducible repeat (first | refine blk_drewN ?_ _ | refine blk_drew ?_ | refine blk_alloc ?_ _)); refine blk_far ?_ NB143_144.out _; (with_reducible repeat (first | refine blk_drewN ?_ _ | refine blk_drew ?_ | refine blk_alloc ?_ _)); refine blk_far ?_ NB143_144.out _; (with_reducible repeat (first | refine blk_drewN ?_ _ | refine blk_drew ?_ | refine blk_alloc ?_ _)); refine blk_far ?_ NB143_144.out _; (with_reducible repeat (first | refine blk_drewN ?_ _ | refine blk_drew ?_ | refine blk_alloc ?_ _)); refine blk_far ?_ NB143_144.out _; (with_reducible repeat (first | refine blk_drewN ?_ _ | refine blk_drew ?_ | refine blk_alloc ?_ _)); refine blk_far ?_ NB143_144.out _; (with_reducible repeat (first | refine blk_drewN ?_ _ | refine blk_drew ?_ | refine blk_alloc ?_ _)); refine blk_far ?_ NB143_144.out _; (with_reducible repeat (first | refine blk_drewN ?_ _ | refine blk_drew ?_ | refine blk_alloc ?_ _)); refine blk_far ?_ NB143_144.out _; (with_reducible repeat (first | refine blk_drewN ?_ _ | refine blk_drew ?_ | refine blk_alloc ?_ _)); refine blk_far ?_ NB143_144.out _; (with_reducible repeat (first | refine blk_drewN ?_ _ | refine blk_drew ?_ | refine blk_alloc ?_ _)); refine blk_put (cs := #[.slice none 0 0]) ?_ 0 _ rfl; (with_reducible repeat (first | refine blk_drewN ?_ _ | refine blk_drew ?_ | refine blk_alloc ?_ _)); exact BK143.out) Try.underlying26 rfl (by kernel_rfl) (.cell gb144 23 #[.int .i64 ((rd_T23 t145 a1).f0), .int .i64 ((rd_T23 t145 a1).f1), .int .i64 ((rd_T23 t145 a1).f2), .int .i64 ((rd_T23 t145 a1).f3), .int .i64 ((rd_T23 t145 a1).f4), .int .i64 ((rd_T23 t145 a1).f5), .int .i64 ((rd_T23 t145 a1).f6), .string ((rd_T23 t145 a1).f7)] (0, 0) _ rfl (by (with_reducible repeat (first | refine blk_drewN ?_ _ | refine blk_drew ?_ | refine blk_alloc ?_ _)); refine blk_put (cs := #[.int .i64 ((rd_T23 t145 a1).f0), .int .i64 ((rd_T23 t145 a1).f1), .int .i64 ((rd_T23 t145 a1).f2), .int .i64 ((rd_T23 t145 a1).f3), .int .i64 ((rd_T23 t145 a1).f4), .int .i64 ((rd_T23 t145 a1).f5), .int .i64 ((rd_T23 t145 a1).f6), .string (⟨#[]⟩ : ByteArray)]) ?_ 7 _ rfl; (with_reducible repeat (first | refine blk_drewN ?_ _ | refine blk_drew ?_ | refine blk_alloc ?_ _)); refine blk_put (cs := #[.int .i64 ((rd_T23 t145 a1).f0), .int .i64 ((rd_T23 t145 a1).f1), .int .i64 ((rd_T23 t145 a1).f2), .int .i64 ((rd_T23 t145 a1).f3), .int .i64 ((rd_T23 t145 a1).f4), .int .i64 ((rd_T23 t145 a1).f5), .int .i64 0, .string (⟨#[]⟩ : ByteArray)]) ?_ 6 _ rfl; (with_reducible repeat (first | refine blk_drewN ?_ _ | refine blk_drew ?_ | refine blk_alloc ?_ _)); refine blk_put (cs := #[.int .i64 ((rd_T23 t145 a1).f0), .int .i64 ((rd_T23 t145 a1).f1), .int .i64 ((rd_T23 t145 a1).f2), .int .i64 ((rd_T23 t145 a1).f3), .int .i64 ((rd_T23 t145 a1).f4), .int .i64 0, .int .i64 0, .string (⟨#[]⟩ : ByteArray)]) ?_ 5 _ rfl; (with_reducible repeat (first | refine blk_drewN ?_ _ | refine blk_drew ?_ | refine blk_alloc ?_ _)); refine blk_put (cs := #[.int .i64 ((rd_T23 t145 a1).f0), .int .i64 ((rd_T23 t145 a1).f1), .int .i64 ((rd_T23 t145 a1).f2), .int .i64 ((rd_T23 t145 a1).f3), .int .i64 0, .int .i64 0, .int .i64 0, .string (⟨#[]⟩ : ByteArray)]) ?_ 4 _ rfl; (with_reducible repeat (first | refine blk_drewN ?_ _ | refine blk_drew ?_ | refine blk_alloc ?_ _)); refine blk_put (cs := #[.int .i64 ((rd_T23 t145 a1).f0), .int .i64 ((rd_T23 t145 a1).f1), .int .i64 ((rd_T23 t145 a1).f2), .int .i64 0, .int .i64 0, .int .i64 0, .int .i64 0, .string (⟨#[]⟩ : ByteArray)]) ?_ 3 _ rfl; (with_reducible repeat (first | refine blk_drewN ?_ _ | refine blk_drew ?_ | refine blk_alloc ?_ _)); refine blk_put (cs := #[.int .i64 ((rd_T23 t145 a1).f0), .int .i64 ((rd_T23 t145 a1).f1), .int .i64 0, .int .i64 0, .int .i64 0, .int .i64 0, .int .i64 0, .string (⟨#[]⟩ : ByteArray)]) ?_ 2 _ rfl; (with_reducible repeat (first | refine blk_drewN ?_ _ | refine blk_drew ?_ | refine blk_alloc ?_ _)); refine blk_put (cs := #[.int .i64 ((rd_T23 t145 a1).f0), .int .i64 0, .int .i64 0, .int .i64 0, .int .i64 0, .int .i64 0, .int .i64 0, .string (⟨#[]⟩ : ByteArray)]) ?_ 1 _ rfl; (with_reducible repeat (first | refine blk_drewN ?_ _ | refine blk_drew ?_ | refine blk_alloc ?_ _)); refine blk_put (cs := #[.int .i64 0, .int .i64 0, .int .i64 0, .int .i64 0, .int .i64 0, .int .i64 0, .int .i64 0, .string (⟨#[]⟩ : ByteArray)]) ?_ 0 _ rfl; (with_reducible repeat (first | refine blk_drewN ?_ _ | refine blk_drew ?_ | refine blk_alloc ?_ _)); refine blk_far ?_ NB144_143.out _; (with_reducible repeat (first | refine blk_drewN ?_ _ | refine blk_drew ?_ | refine blk_alloc ?_ _)); exact BK144.out) Try.underlying23 rfl (by kernel_rfl) (.tmp .nil)))) rfl ?_
        exact ⟨_, by first | rfl | (simp [errW_none, errW_some] <;> rfl) | (simp only [← hji34]; first | rfl | (simp [errW_none, errW_some] <;> rfl)) | (simp [*, errW_none, errW_some] <;> rfl), by (with_reducible repeat (first | apply Kd.V_alloc | apply Kd.V_drewN | apply Kd.V_drew)); exact Kd.V_mono (Kd.V_far (p := ⟨gb144, 7, none⟩) (Kd.V_far (p := ⟨gb144, 6, none⟩) (Kd.V_far (p := ⟨gb144, 5, none⟩) (Kd.V_far (p := ⟨gb144, 4, none⟩) (Kd.V_far (p := ⟨gb144, 3, none⟩) (Kd.V_far (p := ⟨gb144, 2, none⟩) (Kd.V_far (p := ⟨gb144, 1, none⟩) (Kd.V_far (p := ⟨gb144, 0, none⟩) (Kd.V_far (p := ⟨gb143, 0, none⟩) HO147.out (fun _ hk => hk.2.1) (.slice Av55 y158.length cv55)) (fun _ hk => hk.2.2.1) (.int .i64 ((rd_T23 t145 a1).f0))) (fun _ hk => hk.2.2.1) (.int .i64 ((rd_T23 t145 a1).f1))) (fun _ hk => hk.2.2.1) (.int .i64 ((rd_T23 t145 a1).f2))) (fun _ hk => hk.2.2.1) (.int .i64 ((rd_T23 t145 a1).f3))) (fun _ hk => hk.2.2.1) (.int .i64 ((rd_T23 t145 a1).f4))) (fun _ hk => hk.2.2.1) (.int .i64 ((rd_T23 t145 a1).f5))) (fun _ hk => hk.2.2.1) (.int .i64 ((rd_T23 t145 a1).f6))) (fun _ hk => hk.2.2.1) (.string ((rd_T23 t145 a1).f7))) (fun _ hk => hk.2.2.2.2), by repeat (first | (with_reducible first | exact HB.out | apply below_alloc | apply pw_below_drewN | apply below_drew1 | refine below_set ?_ GE142.out | refine below_set ?_ GE143.out | refine below_set ?_ GE144.out | refine below_set ?_ GE149.out) | exact HB.out)⟩
       ·rw [if_neg c36] at H
        exact absurd H (by simp)
      ·rw [if_neg c35] at H
       exact absurd H (by simp)
     ·rw [if_neg c33] at H
      exact absurd H (by simp)
    ·rw [if_neg c31] at H
     exact absurd H (by simp)
   ·rw [if_neg c30] at H
    exact absurd H (by simp)



/-! ### net_Twice: function 20 -/
def net_Twice.j0 : Nat → Int → Bool → List (S23) → Option ((List (S23)) × Int)
 | 0, _, _, _ => none
 | k + 1, x1, x8, x143000 => if x8 = true then (some (x143000, 4)) else (if (x143000.length : Int) = 400 then (some (x143000, 3)) else (if 0 ≤ x1 then (if x1 < (x143000.length : Int) then (if x143000.length < 1954687338268 then (some ((x143000 ++ [(⟨(rd_T23 x143000 x1).f0, (rd_T23 x143000 x1).f1, (rd_T23 x143000 x1).f2, (rd_T23 x143000 x1).f3, (rd_T23 x143000 x1).f4, (rd_T23 x143000 x1).f5, (rd_T23 x143000 x1).f6, (rd_T23 x143000 x1).f7⟩ : S23)]), 0)) else (none)) else (none)) else (none)))
def net_Twice.f (k : Nat) (l0_0 : List (S23)) (a1 : Int) : Option ((List (S23)) × Int) := (net_own.f k l0_0).bind fun t144 => (if a1 < 0 then (net_Twice.j0 k a1 true t144) else (net_Twice.j0 k a1 (decide (a1 ≥ (t144.length : Int))) t144))
theorem net_Twice.mono_l : ∀ k, (∀ y0 y1 y2, LeO (net_Twice.j0 k y0 y1 y2) (net_Twice.j0 (k + 1) y0 y1 y2))
 | 0 => fun _ _ _ r h => by simp [net_Twice.j0] at h
 | k + 1 => by
  have ih0 := net_Twice.mono_l k
  ·intro y0 y1 y2
   unfold net_Twice.j0
   repeat' first
   | (with_reducible exact ih0 _ _ _)
   | (with_reducible exact net_own.mono _ _)
   | (with_reducible exact LeO.refl _)
   | (with_reducible exact LeO.none _)
   | (with_reducible refine LeO.ite ?_ ?_)
   | (with_reducible refine LeO.bind ?_ (fun _ => ?_))
   | exact ih0 _ _ _
   | exact net_own.mono _ _
   | exact LeO.none _
   | refine LeO.ite ?_ ?_
   | refine LeO.bind ?_ (fun _ => ?_)
theorem net_Twice.mono : ∀ a0 a1 k, LeO (net_Twice.f k a0 a1) (net_Twice.f (k + 1) a0 a1) := by
 intro a0 a1 k
 have ih0 := net_Twice.mono_l k
 unfold net_Twice.f
 repeat' first
   | (with_reducible exact ih0 _ _ _)
   | (with_reducible exact net_own.mono _ _)
   | (with_reducible exact LeO.refl _)
   | (with_reducible exact LeO.none _)
   | (with_reducible refine LeO.ite ?_ ?_)
   | (with_reducible refine LeO.bind ?_ (fun _ => ?_))
   | exact ih0 _ _ _
   | exact net_own.mono _ _
   | exact LeO.none _
   | refine LeO.ite ?_ ?_
   | refine LeO.bind ?_ (fun _ => ?_)
def net_Twice.T6 : Bool × List (List Nat × List Nat) := (true, [([], []), ([0], [0]), ([], []), ([2], [2]), ([], []), ([3, 4], [3, 4]), ([5], [5]), ([6], [6]), ([1, 7], [1, 7]), ([0, 1, 2, 3, 4, 5, 6, 7, 8], []), ([9, 8, 8, 0, 1, 2, 3, 4, 5, 6, 7, 8], [8, 9])])
def net_Twice.B6 : List Nat := [0, 1, 0, 4, 0, 28, 60, 124, 255, 511, 1023]
theorem net_Twice.tab6 : rtab .any (opsOf Try.f20 6) = net_Twice.T6 := by kernel_rfl
theorem net_Twice.bits6 : waitsOk net_Twice.T6.2 net_Twice.B6 = true := by kernel_rfl
set_option maxHeartbeats 8000000 in
set_option maxRecDepth 100000 in
theorem net_Twice.calls (k : Nat) (A0_0 : Option Addr) (c0_0 : Nat) (l0_0 : List (S23)) (a1 : Int) (r1 : List (S23)) (r2 : Int) (w : World) (hr0_0 : Kd.C k23 w A0_0 l0_0.length l0_0) (hc0_0 : l0_0.length ≤ c0_0) (h : net_Twice.f k l0_0 a1 = some (r1, r2)) :
  Calls Try.prog 20 #[.agg #[.slice A0_0 l0_0.length c0_0], .int .i64 a1] w fun e w' => ∃ v0_ : Value, e = .returned (.tuple #[.agg #[v0_], .int .i64 r2]) ∧ Kd.R k23 23 w' w.heap.size (fun _ => True) v0_ r1 ∧ Below w.heap.size w w' := by
 have hu26 := Try.underlying26
 have hu23 := Try.underlying23
 have HR0_0 := Aside0.mk hr0_0
 have HC0_0 := Aside0.mk hc0_0
 clear hr0_0 hc0_0
 have HB := Aside0.mk (Below.refl w.heap.size w)
 have H : ((net_own.f k l0_0).bind fun t144 => (if a1 < 0 then (net_Twice.j0 k a1 true t144) else (net_Twice.j0 k a1 (decide (a1 ≥ (t144.length : Int))) t144))) = some (r1, r2) := h
 clear h
 replace H := Option.bind_eq_some_iff.mp H
 obtain ⟨t144, A30, H⟩ := H
 replace H : (if a1 < 0 then (net_Twice.j0 k a1 true t144) else (net_Twice.j0 k a1 (decide (a1 ≥ (t144.length : Int))) t144)) = some (r1, r2) := H
 have A3 := Aside0.mk A30
 clear A30
 have HC4 := Aside0.mk H
 clear H
 go_enter Try.func20, Try.ntmps20
 go_upto_region 2 with (first | ((with_reducible refine gate_dst (N := 2) rfl ?_); (try (refine gate_guard (by rfl) ?_; dsimp only)); refine box_event ?hg (N := 2) ?hd (cs := #[.slice A0_0 l0_0.length c0_0]) (t := 26) ?hr ?_; (case hd => rfl); (case hg => rfl); (case hr => first | (go_simp; done) | (go_simp; rfl)); intro gb142 hg w5 hbox hb; have n0_ := Aside0.mk (below_step (by repeat (first | (with_reducible first | exact HB.out | apply below_alloc | apply pw_below_drewN | apply below_drew1) | exact HB.out)) hb); have n1_ := Aside0.mk (hbox); have n2_ := Aside0.mk ((by rw [hg]; exact (below_size (by repeat (first | (with_reducible first | exact HB.out | apply below_alloc | apply pw_below_drewN | apply below_drew1) | exact HB.out))) : w.heap.size ≤ gb142)); have n3_ := Aside0.mk ((by rw [hg]; exact (below_size (by repeat (first | (with_reducible first | exact HB.out | apply below_alloc | apply pw_below_drewN | apply below_drew1) | exact HB.out))) : w.heap.size ≤ gb142)); clear HB; have HB := n0_; have BK142 := n1_; have GW142 := n2_; have GE142 := n3_; clear n0_ n1_ n2_ n3_; clear hb hbox hg) | ((with_reducible refine gate_dst (N := 4) rfl ?_); (try (refine gate_guard (by rfl) ?_; dsimp only)); refine box_event ?hg (N := 4) ?hd (cs := #[.slice none 0 0]) (t := 26) ?hr ?_; (case hd => rfl); (case hg => rfl); (case hr => first | (go_simp; done) | (go_simp; rfl)); intro gb143 hg w6 hbox hb; have n0_ := Aside0.mk (blk_below (g := gb142) (o := .cells #[.slice A0_0 l0_0.length c0_0] 26 (0, 0)) (by (with_reducible repeat (first | refine blk_drewN ?_ _ | refine blk_drew ?_ | refine blk_alloc ?_ _)); exact BK142.out) hb); have n1_ := Aside0.mk (below_step (by repeat (first | (with_reducible first | exact HB.out | apply below_alloc | apply pw_below_drewN | apply below_drew1 | refine below_set ?_ GE142.out) | exact HB.out)) hb); have n2_ := Aside0.mk (hbox); have n3_ := Aside0.mk ((by rw [hg]; exact (below_size (by repeat (first | (with_reducible first | exact HB.out | apply below_alloc | apply pw_below_drewN | apply below_drew1 | refine below_set ?_ GE142.out) | exact HB.out))) : w.heap.size ≤ gb143)); have n4_ := Aside0.mk ((by rw [hg]; exact (below_size (by repeat (first | (with_reducible first | exact HB.out | apply below_alloc | apply pw_below_drewN | apply below_drew1 | refine below_set ?_ GE142.out) | exact HB.out))) : w.heap.size ≤ gb143)); have n5_ := Aside0.mk ((by rw [hg]; exact Nat.ne_of_lt (blk_lt (g := gb142) (o := .cells #[.slice A0_0 l0_0.length c0_0] 26 (0, 0)) (by (with_reducible repeat (first | refine blk_drewN ?_ _ | refine blk_drew ?_ | refine blk_alloc ?_ _)); exact BK142.out)) : gb142 ≠ gb143)); have n6_ := Aside0.mk ((by rw [hg]; exact Nat.ne_of_gt (blk_lt (g := gb142) (o := .cells #[.slice A0_0 l0_0.length c0_0] 26 (0, 0)) (by (with_reducible repeat (first | refine blk_drewN ?_ _ | refine blk_drew ?_ | refine blk_alloc ?_ _)); exact BK142.out)) : gb143 ≠ gb142)); clear BK142; clear HB; have BK142 := n0_; have HB := n1_; have BK143 := n2_; have GW143 := n3_; have GE143 := n4_; have NB142_143 := n5_; have NB143_142 := n6_; clear n0_ n1_ n2_ n3_ n4_ n5_ n6_; clear hb hbox hg; have hnb7 := NB142_143.out; have hnc7 := NB143_142.out; have hcz8_0 : w6.cell? ⟨gb142, 0, none⟩ = some (.slice A0_0 l0_0.length c0_0) := (blk_cell BK142.out 0).trans rfl; have hfz8_0 := blk_frozen BK142.out 0) | ((with_reducible refine gate_callee (f := 26) rfl ?_); refine goesL_ (some 7) rfl rfl Try.func26 (by kernel_rfl) rfl #[.agg #[.slice A0_0 l0_0.length c0_0]] rfl (by (try simp only [List.map_toArray, List.map_cons, List.map_nil]); first | done | rfl | (simp only [List.length_drop, List.length_take]; rfl)) ?_; (with_reducible refine (net_own.calls k _ _ l0_0 t144 _ ?side1 ?side2 A3.out).mono ?_); (case side1 => repeat (first | exact (Kd.C_below HR0_0.out HB.out) | (with_reducible refine Kd.C_alloc ?_ _) | (with_reducible refine Kd.C_drewN ?_ _) | (with_reducible refine Kd.C_drew ?_))); (case side2 => exact HC0_0.out); rintro e w9 ⟨v145, rfl, ho0, hb⟩; refine ⟨_, rfl, ?_⟩; have n0_ := Aside0.mk (Kd.R_lower ho0 (below_size (by repeat (first | (with_reducible first | exact HB.out | apply below_alloc | apply pw_below_drewN | apply below_drew1 | refine below_set ?_ GE142.out | refine below_set ?_ GE143.out) | exact HB.out)))); have n1_ := Aside0.mk (blk_below (g := gb142) (o := .cells #[.slice A0_0 l0_0.length c0_0] 26 (0, 0)) (by (with_reducible repeat (first | refine blk_drewN ?_ _ | refine blk_drew ?_ | refine blk_alloc ?_ _)); exact BK142.out) hb); have n2_ := Aside0.mk (blk_below (g := gb143) (o := .cells #[.slice none 0 0] 26 (0, 0)) (by (with_reducible repeat (first | refine blk_drewN ?_ _ | refine blk_drew ?_ | refine blk_alloc ?_ _)); exact BK143.out) hb); have n3_ := Aside0.mk (below_step (by repeat (first | (with_reducible first | exact HB.out | apply below_alloc | apply pw_below_drewN | apply below_drew1 | refine below_set ?_ GE142.out | refine below_set ?_ GE143.out) | exact HB.out)) hb); clear BK142; clear BK143; clear HB; have HO146 := n0_; have BK142 := n1_; have BK143 := n2_; have HB := n3_; clear n0_ n1_ n2_ n3_; (try clear hb); (try clear hb2); (try clear hk); (try clear hi); (try clear ho0); obtain ⟨Ao10, co10, eo10⟩ := Kd.R_slice HO146.out; subst eo10; have hcz11_0 : w9.cell? ⟨gb142, 0, none⟩ = some (.slice A0_0 l0_0.length c0_0) := (blk_cell BK142.out 0).trans rfl; have hfz11_0 := blk_frozen BK142.out 0))
 (try simp only [Act.put, List.setIfInBounds_toArray, List.set_cons_zero, List.set_cons_succ])
 go_cut [8] (fun v8 wc => ∃ (kq : Nat) (x8_3 : Bool), v8 = .bool x8_3 ∧ Aside0 (net_Twice.j0 kq a1 x8_3 t144 = some (r1, r2)) ∧ Aside0 (kq ≤ k) ∧ Aside0 (Kd.R k23 23 wc w.heap.size (fun _ => True) (.slice Ao10 t144.length co10) t144) ∧ Aside0 (wc.heap[gb142]? = some (.cells #[(.slice Ao10 t144.length co10)] 26 (0, 0))) ∧ Aside0 (wc.heap[gb143]? = some (.cells #[(.slice none 0 0)] 26 (0, 0))) ∧ Aside0 (Below w.heap.size w wc))
 case first =>
  have H := HC4.out
  clear HC4
  by_cases c12 : a1 < 0
  ·rw [if_pos c12] at H
   have c12b0 : decide (a1 < 0) = true := decide_eq_true c12
   clear c12
   (first | rw [c12b0] | (simp only [i64_w, i32_w]; rw [c12b0]) | skip)
   have H' := Aside0.mk H
   clear H
   go_wp2
   go_meet
   case rel => exact ⟨_, (true), (by first | rfl | (simp; done) | (simp [*]; done)), H', ⟨by first | omega | exact Nat.le_refl _⟩, ⟨by (with_reducible repeat (first | apply Kd.R_alloc | apply Kd.R_drewN | apply Kd.R_drew)); exact Kd.R_mono (Kd.R_far (p := ⟨gb142, 0, none⟩) (Kd.R_types HO146.out BK142.out (by decide)) (fun _ hk => hk.2) (.slice Ao10 t144.length co10)) (fun _ hk => trivial)⟩, ⟨by (with_reducible repeat (first | refine blk_drewN ?_ _ | refine blk_drew ?_ | refine blk_alloc ?_ _)); refine blk_put (cs := #[.slice A0_0 l0_0.length c0_0]) ?_ 0 _ rfl; (with_reducible repeat (first | refine blk_drewN ?_ _ | refine blk_drew ?_ | refine blk_alloc ?_ _)); exact BK142.out⟩, ⟨by (with_reducible repeat (first | refine blk_drewN ?_ _ | refine blk_drew ?_ | refine blk_alloc ?_ _)); refine blk_far ?_ NB143_142.out _; (with_reducible repeat (first | refine blk_drewN ?_ _ | refine blk_drew ?_ | refine blk_alloc ?_ _)); exact BK143.out⟩, ⟨by repeat (first | (with_reducible first | exact HB.out | apply below_alloc | apply pw_below_drewN | apply below_drew1 | refine below_set ?_ GE142.out | refine below_set ?_ GE143.out) | exact HB.out)⟩⟩
  ·rw [if_neg c12] at H
   have c12b0 : decide (a1 < 0) = false := decide_eq_false c12
   clear c12
   (first | rw [c12b0] | (simp only [i64_w, i32_w]; rw [c12b0]) | skip)
   have H' := Aside0.mk H
   clear H
   have hnb13 := NB142_143.out
   have hnc13 := NB143_142.out
   have hcz14_0 : w9.cell? ⟨gb142, 0, none⟩ = some (.slice A0_0 l0_0.length c0_0) := (blk_cell BK142.out 0).trans rfl
   have hfz14_0 := blk_frozen BK142.out 0
   go_wp2
   go_meet
   case rel => exact ⟨_, (decide (a1 ≥ (t144.length : Int))), (by first | rfl | (simp; done) | (simp [*]; done)), H', ⟨by first | omega | exact Nat.le_refl _⟩, ⟨by (with_reducible repeat (first | apply Kd.R_alloc | apply Kd.R_drewN | apply Kd.R_drew)); exact Kd.R_mono (Kd.R_far (p := ⟨gb142, 0, none⟩) (Kd.R_types HO146.out BK142.out (by decide)) (fun _ hk => hk.2) (.slice Ao10 t144.length co10)) (fun _ hk => trivial)⟩, ⟨by (with_reducible repeat (first | refine blk_drewN ?_ _ | refine blk_drew ?_ | refine blk_alloc ?_ _)); refine blk_put (cs := #[.slice A0_0 l0_0.length c0_0]) ?_ 0 _ rfl; (with_reducible repeat (first | refine blk_drewN ?_ _ | refine blk_drew ?_ | refine blk_alloc ?_ _)); exact BK142.out⟩, ⟨by (with_reducible repeat (first | refine blk_drewN ?_ _ | refine blk_drew ?_ | refine blk_alloc ?_ _)); refine blk_far ?_ NB143_142.out _; (with_reducible repeat (first | refine blk_drewN ?_ _ | refine blk_drew ?_ | refine blk_alloc ?_ _)); exact BK143.out⟩, ⟨by repeat (first | (with_reducible first | exact HB.out | apply below_alloc | apply pw_below_drewN | apply below_drew1 | refine below_set ?_ GE142.out | refine below_set ?_ GE143.out) | exact HB.out)⟩⟩
 case rest =>
  clear HC4
  try clear c1
  try clear c2
  try clear p2
  try clear c7
  try clear c12
  try clear c12b0
  try clear c13
  try clear hcz11_0
  try clear hcz14_0
  try clear hcz8_0
  try clear hfz11_0
  try clear hfz14_0
  try clear hfz8_0
  obtain ⟨kq, x8_3, rfl, HA, HJ3, HO_143000, BK142, BK143, HB⟩ := hcut
  cases kq with
  | zero => exact absurd HA.out (by simp [net_Twice.j0])
  | succ kj3 =>
   have H := HA.out
   clear HA
   simp only [net_Twice.j0] at H
   by_cases c15 : x8_3 = true
   ·subst c15
    have H1 : (some (t144, 4)) = some (r1, r2) := by rw [if_pos rfl] at H; exact H
    clear H
    have H := H1
    clear H1
    simp only [Option.some.injEq, Prod.mk.injEq] at H
    obtain ⟨rfl, rfl⟩ := H
    have hnb16 := NB142_143.out
    have hnc16 := NB143_142.out
    have hcz17_0 : wc.cell? ⟨gb142, 0, none⟩ = some (.slice Ao10 t144.length co10) := (blk_cell BK142.out 0).trans rfl
    have hfz17_0 := blk_frozen BK142.out 0
    have hcz18_0 : wc.cell? ⟨gb143, 0, none⟩ = some (.slice none 0 0) := (blk_cell BK143.out 0).trans rfl
    have hfz18_0 := blk_frozen BK143.out 0
    go_wp2
    refine bodyPost_ret (results_ct rfl _ _ gb143 26 #[.slice Ao10 t144.length co10] (0, 0) _ rfl (by (with_reducible repeat (first | refine blk_drewN ?_ _ | refine blk_drew ?_ | refine blk_alloc ?_ _)); refine blk_put (cs := #[.slice none 0 0]) ?_ 0 _ rfl; (with_reducible repeat (first | refine blk_drewN ?_ _ | refine blk_drew ?_ | refine blk_alloc ?_ _)); exact BK143.out) Try.underlying26 rfl (by kernel_rfl)) rfl ?_
    exact ⟨_, by first | rfl | (simp [errW_none, errW_some] <;> rfl) | (simp [*, errW_none, errW_some] <;> rfl), by (with_reducible repeat (first | apply Kd.R_alloc | apply Kd.R_drewN | apply Kd.R_drew)); exact Kd.R_mono (Kd.R_far (p := ⟨gb143, 0, none⟩) (Kd.R_types HO_143000.out BK143.out (by decide)) (fun _ hk => hk.2) (.slice Ao10 t144.length co10)) (fun _ hk => trivial), by repeat (first | (with_reducible first | exact HB.out | apply below_alloc | apply pw_below_drewN | apply below_drew1 | refine below_set ?_ GE142.out | refine below_set ?_ GE143.out) | exact HB.out)⟩
   ·replace c15 := Bool.eq_false_iff.mpr c15
    subst c15
    have H1 : (if (t144.length : Int) = 400 then (some (t144, 3)) else (if 0 ≤ a1 then (if a1 < (t144.length : Int) then (if t144.length < 1954687338268 then (some ((t144 ++ [(⟨(rd_T23 t144 a1).f0, (rd_T23 t144 a1).f1, (rd_T23 t144 a1).f2, (rd_T23 t144 a1).f3, (rd_T23 t144 a1).f4, (rd_T23 t144 a1).f5, (rd_T23 t144 a1).f6, (rd_T23 t144 a1).f7⟩ : S23)]), 0)) else (none)) else (none)) else (none))) = some (r1, r2) := by rw [if_neg (show ¬ (false = true) by decide)] at H; exact H
    clear H
    have H := H1
    clear H1
    by_cases c19 : (t144.length : Int) = 400
    ·rw [if_pos c19] at H
     have c19b0 : ((t144.length : Int) == 400) = true := beq_iff_eq.mpr c19
     have c19b1 : ((t144.length : Int) != 400) = false := bne_eq_false_iff_eq.mpr c19
     clear c19
     simp only [Option.some.injEq, Prod.mk.injEq] at H
     obtain ⟨rfl, rfl⟩ := H
     have hnb20 := NB142_143.out
     have hnc20 := NB143_142.out
     have hcz21_0 : wc.cell? ⟨gb142, 0, none⟩ = some (.slice Ao10 t144.length co10) := (blk_cell BK142.out 0).trans rfl
     have hfz21_0 := blk_frozen BK142.out 0
     have hcz22_0 : wc.cell? ⟨gb143, 0, none⟩ = some (.slice none 0 0) := (blk_cell BK143.out 0).trans rfl
     have hfz22_0 := blk_frozen BK143.out 0
     go_wp2
     refine bodyPost_ret (results_ct rfl _ _ gb143 26 #[.slice Ao10 t144.length co10] (0, 0) _ rfl (by (with_reducible repeat (first | refine blk_drewN ?_ _ | refine blk_drew ?_ | refine blk_alloc ?_ _)); refine blk_put (cs := #[.slice none 0 0]) ?_ 0 _ rfl; (with_reducible repeat (first | refine blk_drewN ?_ _ | refine blk_drew ?_ | refine blk_alloc ?_ _)); exact BK143.out) Try.underlying26 rfl (by kernel_rfl)) rfl ?_
     exact ⟨_, by first | rfl | (simp [errW_none, errW_some] <;> rfl) | (simp [*, errW_none, errW_some] <;> rfl), by (with_reducible repeat (first | apply Kd.R_alloc | apply Kd.R_drewN | apply Kd.R_drew)); exact Kd.R_mono (Kd.R_far (p := ⟨gb143, 0, none⟩) (Kd.R_types HO_143000.out BK143.out (by decide)) (fun _ hk => hk.2) (.slice Ao10 t144.length co10)) (fun _ hk => trivial), by repeat (first | (with_reducible first | exact HB.out | apply below_alloc | apply pw_below_drewN | apply below_drew1 | refine below_set ?_ GE142.out | refine below_set ?_ GE143.out) | exact HB.out)⟩
    ·rw [if_neg c19] at H
     have c19b0 : ((t144.length : Int) == 400) = false := beq_eq_false_iff_ne.mpr c19
     have c19b1 : ((t144.length : Int) != 400) = true := bne_iff_ne.mpr c19
     by_cases c23 : 0 ≤ a1
     ·rw [if_pos c23] at H
      have c23b0 : decide (0 ≤ a1) = true := decide_eq_true c23
      clear c23
      by_cases c24 : a1 < (t144.length : Int)
      ·rw [if_pos c24] at H
       have c24b0 : decide (a1 < (t144.length : Int)) = true := decide_eq_true c24
       clear c24
       by_cases c25 : t144.length < 1954687338268
       ·rw [if_pos c25] at H
        have LMc25 := Aside0.mk c25
        clear c25
        obtain ⟨y148, hy148⟩ : ∃ y_ : List (S23), y_ = (t144 ++ [(⟨(rd_T23 t144 a1).f0, (rd_T23 t144 a1).f1, (rd_T23 t144 a1).f2, (rd_T23 t144 a1).f3, (rd_T23 t144 a1).f4, (rd_T23 t144 a1).f5, (rd_T23 t144 a1).f6, (rd_T23 t144 a1).f7⟩ : S23)]) := ⟨_, rfl⟩
        replace H : (some (y148, 0)) = some (r1, r2) := by first | (rw [hy148]; with_reducible exact H) | (have H2_ := (Option.bind_some _ _).symm.trans H; rw [hy148]; with_reducible exact H2_) | (have H2_ := (Option.bind_some _ _).symm.trans H; with_reducible exact H2_) | with_reducible exact H | (rw [hy148]; exact H) | exact H
        have Ny148 := Aside0.mk hy148
        clear hy148
        simp only [Option.some.injEq, Prod.mk.injEq] at H
        obtain ⟨rfl, rfl⟩ := H
        have hnb26 := NB142_143.out
        have hnc26 := NB143_142.out
        have hcz27_0 : wc.cell? ⟨gb142, 0, none⟩ = some (.slice Ao10 t144.length co10) := (blk_cell BK142.out 0).trans rfl
        have hfz27_0 := blk_frozen BK142.out 0
        try go_wp2
        have n0_ := Aside0.mk (Kd.R_drew HO_143000.out)
        have n1_ := Aside0.mk (blk_drew BK142.out)
        have n2_ := Aside0.mk (blk_drew BK143.out)
        have n3_ := Aside0.mk (below_drew1 HB.out)
        clear HO_143000
        clear BK142
        clear BK143
        clear HB
        have HO_143000 := n0_
        have BK142 := n1_
        have BK143 := n2_
        have HB := n3_
        clear n0_ n1_ n2_ n3_
        have p147 : 0 ≤ (a1 : Int) := of_decide_eq_true (by first | (with_reducible assumption) | assumption)
        have q147 : a1 < (t144.length : Int) := of_decide_eq_true (by first | (with_reducible assumption) | assumption)
        obtain ⟨ad147, e147, hx147_0, hx147_1, hx147_2, hx147_3, hx147_4, hx147_5, hx147_6, hx147_7⟩ := at_T23 (Kd.R_reads' HO_143000.out).2.2 a1 p147 q147
        cases e147
        replace p147 := eq_true p147
        replace q147 := eq_true q147
        refine start_ (n := 11) (S := fun w' => w'.cell? ⟨gb142, 0, none⟩ = some (.slice (some ad147) t144.length co10) ∧ w'.cell? (ad147.add ((a1).toNat * 8)) = some (.int .i64 ((rd_T23 t144 a1).f0)) ∧ w'.cell? ⟨(ad147.add ((a1).toNat * 8)).block, (ad147.add ((a1).toNat * 8)).off + 1, none⟩ = some (.int .i64 ((rd_T23 t144 a1).f1)) ∧ w'.cell? ⟨(ad147.add ((a1).toNat * 8)).block, (ad147.add ((a1).toNat * 8)).off + 2, none⟩ = some (.int .i64 ((rd_T23 t144 a1).f2)) ∧ w'.cell? ⟨(ad147.add ((a1).toNat * 8)).block, (ad147.add ((a1).toNat * 8)).off + 3, none⟩ = some (.int .i64 ((rd_T23 t144 a1).f3)) ∧ w'.cell? ⟨(ad147.add ((a1).toNat * 8)).block, (ad147.add ((a1).toNat * 8)).off + 4, none⟩ = some (.int .i64 ((rd_T23 t144 a1).f4)) ∧ w'.cell? ⟨(ad147.add ((a1).toNat * 8)).block, (ad147.add ((a1).toNat * 8)).off + 5, none⟩ = some (.int .i64 ((rd_T23 t144 a1).f5)) ∧ w'.cell? ⟨(ad147.add ((a1).toNat * 8)).block, (ad147.add ((a1).toNat * 8)).off + 6, none⟩ = some (.int .i64 ((rd_T23 t144 a1).f6)) ∧ w'.cell? ⟨(ad147.add ((a1).toNat * 8)).block, (ad147.add ((a1).toNat * 8)).off + 7, none⟩ = some (.string ((rd_T23 t144 a1).f7))) (ds := [8, 10]) #[false, false, false, false, false, false, false, false, false, false, false] (by kernel_rfl) rfl rfl ⟨(blk_cell BK142.out 0).trans rfl, hx147_0, hx147_1, hx147_2, hx147_3, hx147_4, hx147_5, hx147_6, hx147_7⟩ (fun hHeld => ?_); refine with_tabW net_Twice.tab6 net_Twice.bits6 (fun HT_ HW_ => ?_)
        generalize wc.drew = w28 at HO_143000 BK142 BK143 HB hx147_0 hx147_1 hx147_2 hx147_3 hx147_4 hx147_5 hx147_6 hx147_7 hHeld ⊢
        refine pure_ (i := 0) (N := some 25) (v := ?_) (a' := ?_) #[true, false, false, false, false, false, false, false, false, false, false] rfl rfl (any_of HT_.out (by kernel_rfl)) (fun _ _ _ h => h) (Or.inl ⟨by rfl, ?_⟩) ?_ ?_
        rotate_left
        ·intro w'
         go_simp
         with_reducible rfl
        rotate_left
        ·simp only [Act.put, List.setIfInBounds_toArray, List.set_cons_zero, List.set_cons_succ, i64_w, i32_w]
         rfl
        refine pure_ (i := 2) (N := some 27) (v := ?_) (a' := ?_) #[true, false, true, false, false, false, false, false, false, false, false] rfl rfl (any_of HT_.out (by kernel_rfl)) (fun _ _ _ h => h) (Or.inl ⟨by rfl, ?_⟩) ?_ ?_
        rotate_left
        ·intro w'
         go_simp
         with_reducible rfl
        rotate_left
        ·simp only [Act.put, List.setIfInBounds_toArray, List.set_cons_zero, List.set_cons_succ, i64_w, i32_w]
         rfl
        refine pure_ (i := 4) (N := some 29) (v := ?_) (a' := ?_) #[true, false, true, false, true, false, false, false, false, false, false] rfl rfl (any_of HT_.out (by kernel_rfl)) (fun _ _ _ h => h) (Or.inl ⟨by rfl, ?_⟩) ?_ ?_
        rotate_left
        ·intro w'
         go_simp
         with_reducible rfl
        rotate_left
        ·simp only [Act.put, List.setIfInBounds_toArray, List.set_cons_zero, List.set_cons_succ, i64_w, i32_w]
         rfl
        refine take_ (i := 1) (N := some 26) (v := ?_) (a' := ?_) #[true, true, true, false, true, false, false, false, false, false, false] rfl rfl (take_ofW HT_.out HW_.out (by kernel_rfl)) (fun _ _ _ h => h) (Or.inl ⟨by rfl, ?_⟩) hHeld ?_ ?_
        rotate_left
        ·rintro w' ⟨s0, s1, s2, s3, s4, s5, s6, s7, s8⟩
         go_simp
         with_reducible rfl
        rotate_left
        ·simp only [Act.put, List.setIfInBounds_toArray, List.set_cons_zero, List.set_cons_succ, i64_w, i32_w]
         rfl
        refine take_ (i := 3) (N := some 28) (v := ?_) (a' := ?_) #[true, true, true, true, true, false, false, false, false, false, false] rfl rfl (take_ofW HT_.out HW_.out (by kernel_rfl)) (fun _ _ _ h => h) (Or.inl ⟨by rfl, ?_⟩) hHeld ?_ ?_
        rotate_left
        ·rintro w' ⟨s0, s1, s2, s3, s4, s5, s6, s7, s8⟩
         go_simp
         with_reducible rfl
        rotate_left
        ·simp only [Act.put, List.setIfInBounds_toArray, List.set_cons_zero, List.set_cons_succ, i64_w, i32_w]
         rfl
        refine pure_ (i := 5) (N := some 30) (v := ?_) (a' := ?_) #[true, true, true, true, true, true, false, false, false, false, false] rfl rfl (any_of HT_.out (by kernel_rfl)) (fun _ _ _ h => h) (Or.inl ⟨by rfl, ?_⟩) ?_ ?_
        rotate_left
        ·intro w'
         go_simp
         with_reducible rfl
        rotate_left
        ·simp only [Act.put, List.setIfInBounds_toArray, List.set_cons_zero, List.set_cons_succ, i64_w, i32_w]
         rfl
        refine take_ (i := 6) (N := some 31) (v := ?_) (a' := ?_) #[true, true, true, true, true, true, true, false, false, false, false] rfl rfl (take_ofW HT_.out HW_.out (by kernel_rfl)) (fun _ _ _ h => h) (Or.inl ⟨by rfl, ?_⟩) hHeld ?_ ?_
        rotate_left
        ·rintro w' ⟨s0, s1, s2, s3, s4, s5, s6, s7, s8⟩
         go_simp
         with_reducible rfl
        rotate_left
        ·simp only [Act.put, List.setIfInBounds_toArray, List.set_cons_zero, List.set_cons_succ, i64_w, i32_w]
         rfl
        refine one_ (i := 7) (N := some 32) #[true, true, true, true, true, true, true, true, false, false, false] rfl rfl (one_of HT_.out (by kernel_rfl)) (by decide) (fun K hK => ?_)
        refine value_ (w1 := ?_) (v := ?_) (by rfl) rfl ?_ ?_
        rotate_left 2
        ·go_simp
         constructor
         ·rfl
         ·rfl
        refine hK.out _ _ ⟨(blk_cell (blk_alloc BK142.out _) 0).trans rfl, (World.cell?_alloc_lt _ _ _ (World.block_lt_of_cell? _ _ (hHeld.2.1))).trans (hHeld.2.1), (World.cell?_alloc_lt _ _ _ (World.block_lt_of_cell? _ _ (hHeld.2.2.1))).trans (hHeld.2.2.1), (World.cell?_alloc_lt _ _ _ (World.block_lt_of_cell? _ _ (hHeld.2.2.2.1))).trans (hHeld.2.2.2.1), (World.cell?_alloc_lt _ _ _ (World.block_lt_of_cell? _ _ (hHeld.2.2.2.2.1))).trans (hHeld.2.2.2.2.1), (World.cell?_alloc_lt _ _ _ (World.block_lt_of_cell? _ _ (hHeld.2.2.2.2.2.1))).trans (hHeld.2.2.2.2.2.1), (World.cell?_alloc_lt _ _ _ (World.block_lt_of_cell? _ _ (hHeld.2.2.2.2.2.2.1))).trans (hHeld.2.2.2.2.2.2.1), (World.cell?_alloc_lt _ _ _ (World.block_lt_of_cell? _ _ (hHeld.2.2.2.2.2.2.2.1))).trans (hHeld.2.2.2.2.2.2.2.1), (World.cell?_alloc_lt _ _ _ (World.block_lt_of_cell? _ _ (hHeld.2.2.2.2.2.2.2.2))).trans (hHeld.2.2.2.2.2.2.2.2)⟩ (fun hHeld => ?_)
        clear hK K
        refine norm_ (a' := ?_) ?_ ?_
        rotate_left
        ·show Act.put _ (some 32) _ = _
         simp only [Act.put, List.setIfInBounds_toArray, List.set_cons_zero, List.set_cons_succ, i64_w, i32_w]
         rfl
        refine last_ (i := 8) (N := some 33) #[true, true, true, true, true, true, true, true, true, false, false] rfl rfl (one_of HT_.out (by kernel_rfl)) (by decide) (fun K hK => ?_)
        refine Kd.R_append_step k23 (w0 := w) w.heap.size (by rfl) (.tmp 26) (.tmp 32) 24 23 (.agg #[(.int .i64 0), (.int .i64 0), (.int .i64 0), (.int .i64 0), (.int .i64 0), (.int .i64 0), (.int .i64 0), (.string ⟨#[]⟩)]) 72 rfl Try.underlying24 info23 rfl (by decide) (by omega) (.slice (some ad147) t144.length co10) t144 (⟨(rd_T23 t144 a1).f0, (rd_T23 t144 a1).f1, (rd_T23 t144 a1).f2, (rd_T23 t144 a1).f3, (rd_T23 t144 a1).f4, (rd_T23 t144 a1).f5, (rd_T23 t144 a1).f6, (rd_T23 t144 a1).f7⟩ : S23) [.int .i64 ((rd_T23 t144 a1).f0), .int .i64 ((rd_T23 t144 a1).f1), .int .i64 ((rd_T23 t144 a1).f2), .int .i64 ((rd_T23 t144 a1).f3), .int .i64 ((rd_T23 t144 a1).f4), .int .i64 ((rd_T23 t144 a1).f5), .int .i64 ((rd_T23 t144 a1).f6), .string ((rd_T23 t144 a1).f7)] (fun _ => True) (fun _ => False) rfl rfl ?aP (fun _ hk => hk.elim) ?aF ?aO ?aB ?aS ?aL ?_
        (case aP => exact k23_mkM _ _ _ (⟨(rd_T23 t144 a1).f0, (rd_T23 t144 a1).f1, (rd_T23 t144 a1).f2, (rd_T23 t144 a1).f3, (rd_T23 t144 a1).f4, (rd_T23 t144 a1).f5, (rd_T23 t144 a1).f6, (rd_T23 t144 a1).f7⟩ : S23))
        (case aB => exact (by repeat (first | (with_reducible first | exact HB.out | apply below_alloc | apply pw_below_drewN | apply below_drew1 | refine below_set ?_ GE142.out | refine below_set ?_ GE143.out) | exact HB.out)))
        (case aF => exact (fun _ _ => trivial))
        (case aO => exact (by (with_reducible repeat (first | apply Kd.R_alloc | apply Kd.R_drewN | apply Kd.R_drew)); exact HO_143000.out))
        (case aS => exact (below_size (by repeat (first | (with_reducible first | exact HB.out | apply below_alloc | apply pw_below_drewN | apply below_drew1 | refine below_set ?_ GE142.out | refine below_set ?_ GE143.out) | exact HB.out))))
        (case aL => have := LMc25.out; omega)
        intro v149 w29 ho hb hg hat
        rw [← Ny148.out] at ho
        have n0_ := Aside0.mk (blk_grown (g := gb142) (o := .cells #[.slice (some ad147) t144.length co10] 26 (0, 0)) (by (with_reducible repeat (first | refine blk_drewN ?_ _ | refine blk_drew ?_ | refine blk_alloc ?_ _)); exact BK142.out) hg (Kd.R_ne HO_143000.out BK142.out (by decide)))
        have n1_ := Aside0.mk (blk_grown (g := gb143) (o := .cells #[.slice none 0 0] 26 (0, 0)) (by (with_reducible repeat (first | refine blk_drewN ?_ _ | refine blk_drew ?_ | refine blk_alloc ?_ _)); exact BK143.out) hg (Kd.R_ne HO_143000.out BK143.out (by decide)))
        have n2_ := Aside0.mk (hb)
        have n3_ := Aside0.mk (ho)
        clear BK142
        clear BK143
        clear HB
        clear HO_143000
        have BK142 := n0_
        have BK143 := n1_
        have HB := n2_
        have HO150 := n3_
        clear n0_ n1_ n2_ n3_
        clear ho hb hg hat
        obtain ⟨Ao30, co30, eo30⟩ := Kd.R_slice HO150.out
        (first | subst eo30 | (injection eo30 with f1_ f2_ f3_; have f4_ := f1_.symm; have f5_ := f3_.symm; clear f1_ f2_ f3_; subst f4_; subst f5_))
        refine hK.out _ _ ?_
        clear hK K
        refine norm_ (a' := ?_) ?_ ?_
        rotate_left
        ·show Act.put _ (some 33) _ = _
         simp only [Act.put, List.setIfInBounds_toArray, List.set_cons_zero, List.set_cons_succ, i64_w, i32_w]
         rfl
        refine pure_ (i := 9) (N := some 34) (v := ?_) (a' := ?_) #[true, true, true, true, true, true, true, true, true, true, false] rfl rfl (any_of HT_.out (by kernel_rfl)) (fun _ _ _ h => h) (Or.inl ⟨by rfl, ?_⟩) ?_ ?_
        rotate_left
        ·intro w'
         go_simp
         with_reducible rfl
        rotate_left
        ·simp only [Act.put, List.setIfInBounds_toArray, List.set_cons_zero, List.set_cons_succ, i64_w, i32_w]
         rfl
        refine last_ (i := 10) (N := none) #[true, true, true, true, true, true, true, true, true, true, true] rfl rfl (one_of HT_.out (by kernel_rfl)) (by decide) (fun K hK => ?_)
        have hs31 : w29.cell? ⟨gb142, 0, none⟩ = some (.slice (some ad147) t144.length co10) := (blk_cell BK142.out 0).trans rfl
        have hfs31 := blk_frozen BK142.out 0
        have hns31_1 := NB143_142.out
        have hms31_1 := NB142_143.out
        refine skip_ (w1 := ?_) (by rfl) rfl ?_ ?_
        rotate_left
        ·go_simp
         rfl
        refine hK.out _ _ ?_
        clear hK K
        refine done_ (done_of HT_.out (by kernel_rfl)) ?_
        have hcz32_0 : w29.cell? ⟨gb142, 0, none⟩ = some (.slice (some ad147) t144.length co10) := (blk_cell BK142.out 0).trans rfl
        have hfz32_0 := blk_frozen BK142.out 0
        have hcz33_0 : w29.cell? ⟨gb143, 0, none⟩ = some (.slice none 0 0) := (blk_cell BK143.out 0).trans rfl
        have hfz33_0 := blk_frozen BK143.out 0
        try go_wp2
        refine bodyPost_ret (results_ct rfl _ _ gb143 26 #[.slice Ao30 y148.length co30] (0, 0) _ rfl (by (with_reducible repeat (first | refine blk_drewN ?_ _ | refine blk_drew ?_ | refine blk_alloc ?_ _)); refine blk_put (cs := #[.slice none 0 0]) ?_ 0 _ rfl; (with_reducible repeat (first | refine blk_drewN ?_ _ | refine blk_drew ?_ | refine blk_alloc ?_ _)); refine blk_far ?_ NB143_142.out _; (with_reducible repeat (first | refine blk_drewN ?_ _ | refine blk_drew ?_ | refine blk_alloc ?_ _)); exact BK143.out) Try.underlying26 rfl (by kernel_rfl)) rfl ?_
        exact ⟨_, by first | rfl | (simp [errW_none, errW_some] <;> rfl) | (simp [*, errW_none, errW_some] <;> rfl), by (with_reducible repeat (first | apply Kd.R_alloc | apply Kd.R_drewN | apply Kd.R_drew)); exact Kd.R_mono (Kd.R_far (p := ⟨gb143, 0, none⟩) (Kd.R_far (p := ⟨gb142, 0, none⟩) (Kd.R_types (Kd.R_types HO150.out BK142.out (by decide)) BK143.out (by decide)) (fun _ hk => hk.1.2) (.slice Ao30 y148.length co30)) (fun _ hk => hk.2) (.slice Ao30 y148.length co30)) (fun _ hk => trivial), by repeat (first | (with_reducible first | exact HB.out | apply below_alloc | apply pw_below_drewN | apply below_drew1 | refine below_set ?_ GE142.out | refine below_set ?_ GE143.out) | exact HB.out)⟩
       ·rw [if_neg c25] at H
        exact absurd H (by simp)
      ·rw [if_neg c24] at H
       exact absurd H (by simp)
     ·rw [if_neg c23] at H
      exact absurd H (by simp)

/-! ### haywainlaw22_one: function 23 -/
def haywainlaw22_one.f (a0 : ByteArray) : Option (Int × Int × Int × Int × Int × Int × Int × ByteArray) := some (1, 1, 0, 0, 0, 0, 0, a0)
set_option maxHeartbeats 8000000 in
set_option maxRecDepth 100000 in
theorem haywainlaw22_one.calls (a0 : ByteArray) (r1 : Int) (r2 : Int) (r3 : Int) (r4 : Int) (r5 : Int) (r6 : Int) (r7 : Int) (r8 : ByteArray) (w : World) (h : haywainlaw22_one.f a0 = some (r1, r2, r3, r4, r5, r6, r7, r8)) :
  Calls Try.prog 23 #[.string a0] w fun e w' => e = .returned (.agg #[.int .i64 r1, .int .i64 r2, .int .i64 r3, .int .i64 r4, .int .i64 r5, .int .i64 r6, .int .i64 r7, .string r8]) ∧ Below w.heap.size w w' := by
 have hu23 := Try.underlying23
 have HB := Aside0.mk (Below.refl w.heap.size w)
 have H : (some (1, 1, 0, 0, 0, 0, 0, a0)) = some (r1, r2, r3, r4, r5, r6, r7, r8) := h
 clear h
 simp only [Option.some.injEq, Prod.mk.injEq] at H
 obtain ⟨rfl, rfl, rfl, rfl, rfl, rfl, rfl, rfl⟩ := H
 go_enter Try.func23, Try.ntmps23
 go_wp2_with (first | ((with_reducible refine gate_dst (N := 2) rfl ?_); refine box_event ?hg (N := 2) ?hd (cs := #[.int .i64 0, .int .i64 0, .int .i64 0, .int .i64 0, .int .i64 0, .int .i64 0, .int .i64 0, .string (⟨#[]⟩ : ByteArray)]) (t := 23) ?hr ?_; (case hd => rfl); (case hg => rfl); (case hr => first | (go_simp; done) | (go_simp; rfl)); intro gb151 hg w2 hbox hb; have n0_ := Aside0.mk (below_step (by repeat (first | (with_reducible first | exact HB.out | apply below_alloc | apply pw_below_drewN | apply below_drew1) | exact HB.out)) hb); have n1_ := Aside0.mk (hbox); have n2_ := Aside0.mk ((by rw [hg]; exact (below_size (by repeat (first | (with_reducible first | exact HB.out | apply below_alloc | apply pw_below_drewN | apply below_drew1) | exact HB.out))) : w.heap.size ≤ gb151)); have n3_ := Aside0.mk ((by rw [hg]; exact (below_size (by repeat (first | (with_reducible first | exact HB.out | apply below_alloc | apply pw_below_drewN | apply below_drew1) | exact HB.out))) : w.heap.size ≤ gb151)); clear HB; have HB := n0_; have BK151 := n1_; have GW151 := n2_; have GE151 := n3_; clear n0_ n1_ n2_ n3_; clear hb hbox hg; have hcz3_0 : w2.cell? ⟨gb151, 0, none⟩ = some (.int .i64 0) := (blk_cell BK151.out 0).trans rfl; have hcz3_1 : w2.cell? ⟨gb151, 1, none⟩ = some (.int .i64 0) := (blk_cell BK151.out 1).trans rfl; have hcz3_2 : w2.cell? ⟨gb151, 2, none⟩ = some (.int .i64 0) := (blk_cell BK151.out 2).trans rfl; have hcz3_3 : w2.cell? ⟨gb151, 3, none⟩ = some (.int .i64 0) := (blk_cell BK151.out 3).trans rfl; have hcz3_4 : w2.cell? ⟨gb151, 4, none⟩ = some (.int .i64 0) := (blk_cell BK151.out 4).trans rfl; have hcz3_5 : w2.cell? ⟨gb151, 5, none⟩ = some (.int .i64 0) := (blk_cell BK151.out 5).trans rfl; have hcz3_6 : w2.cell? ⟨gb151, 6, none⟩ = some (.int .i64 0) := (blk_cell BK151.out 6).trans rfl; have hcz3_7 : w2.cell? ⟨gb151, 7, none⟩ = some (.string (⟨#[]⟩ : ByteArray)) := (blk_cell BK151.out 7).trans rfl; have hfz3_0 := blk_frozen BK151.out 0; have hfz3_1 := blk_frozen BK151.out 1; have hfz3_2 := blk_frozen BK151.out 2; have hfz3_3 := blk_frozen BK151.out 3; have hfz3_4 := blk_frozen BK151.out 4; have hfz3_5 := blk_frozen BK151.out 5; have hfz3_6 := blk_frozen BK151.out 6; have hfz3_7 := blk_frozen BK151.out 7))
 refine bodyPost_ret (results_cell_row rfl _ _ gb151 23 #[.int .i64 1, .int .i64 1, .int .i64 0, .int .i64 0, .int .i64 0, .int .i64 0, .int .i64 0, .string a0] (0, 0) _ rfl (by (with_reducible repeat (first | refine blk_drewN ?_ _ | refine blk_drew ?_ | refine blk_alloc ?_ _)); refine blk_put (cs := #[.int .i64 1, .int .i64 1, .int .i64 0, .int .i64 0, .int .i64 0, .int .i64 0, .int .i64 0, .string (⟨#[]⟩ : ByteArray)]) ?_ 7 _ rfl; (with_reducible repeat (first | refine blk_drewN ?_ _ | refine blk_drew ?_ | refine blk_alloc ?_ _)); refine blk_put (cs := #[.int .i64 1, .int .i64 1, .int .i64 0, .int .i64 0, .int .i64 0, .int .i64 0, .int .i64 0, .string (⟨#[]⟩ : ByteArray)]) ?_ 6 _ rfl; (with_reducible repeat (first | refine blk_drewN ?_ _ | refine blk_drew ?_ | refine blk_alloc ?_ _)); refine blk_put (cs := #[.int .i64 1, .int .i64 1, .int .i64 0, .int .i64 0, .int .i64 0, .int .i64 0, .int .i64 0, .string (⟨#[]⟩ : ByteArray)]) ?_ 5 _ rfl; (with_reducible repeat (first | refine blk_drewN ?_ _ | refine blk_drew ?_ | refine blk_alloc ?_ _)); refine blk_put (cs := #[.int .i64 1, .int .i64 1, .int .i64 0, .int .i64 0, .int .i64 0, .int .i64 0, .int .i64 0, .string (⟨#[]⟩ : ByteArray)]) ?_ 4 _ rfl; (with_reducible repeat (first | refine blk_drewN ?_ _ | refine blk_drew ?_ | refine blk_alloc ?_ _)); refine blk_put (cs := #[.int .i64 1, .int .i64 1, .int .i64 0, .int .i64 0, .int .i64 0, .int .i64 0, .int .i64 0, .string (⟨#[]⟩ : ByteArray)]) ?_ 3 _ rfl; (with_reducible repeat (first | refine blk_drewN ?_ _ | refine blk_drew ?_ | refine blk_alloc ?_ _)); refine blk_put (cs := #[.int .i64 1, .int .i64 1, .int .i64 0, .int .i64 0, .int .i64 0, .int .i64 0, .int .i64 0, .string (⟨#[]⟩ : ByteArray)]) ?_ 2 _ rfl; (with_reducible repeat (first | refine blk_drewN ?_ _ | refine blk_drew ?_ | refine blk_alloc ?_ _)); refine blk_put (cs := #[.int .i64 1, .int .i64 0, .int .i64 0, .int .i64 0, .int .i64 0, .int .i64 0, .int .i64 0, .string (⟨#[]⟩ : ByteArray)]) ?_ 1 _ rfl; (with_reducible repeat (first | refine blk_drewN ?_ _ | refine blk_drew ?_ | refine blk_alloc ?_ _)); refine blk_put (cs := #[.int .i64 0, .int .i64 0, .int .i64 0, .int .i64 0, .int .i64 0, .int .i64 0, .int .i64 0, .string (⟨#[]⟩ : ByteArray)]) ?_ 0 _ rfl; (with_reducible repeat (first | refine blk_drewN ?_ _ | refine blk_drew ?_ | refine blk_alloc ?_ _)); exact BK151.out) Try.underlying23 rfl (by kernel_rfl)) rfl ?_
 exact ⟨by first | rfl | (simp [errW_none, errW_some] <;> rfl) | (simp [*, errW_none, errW_some] <;> rfl), by repeat (first | (with_reducible first | exact HB.out | apply below_alloc | apply pw_below_drewN | apply below_drew1 | refine below_set ?_ GE151.out) | exact HB.out)⟩

end Go.Proofs.Ytodjglekfamaaaa.PNet
