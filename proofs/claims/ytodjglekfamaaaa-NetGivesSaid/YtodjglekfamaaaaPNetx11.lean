-- Printed for this claim by a turned copy of the print (wip/tools/patch.py); a text of this session, not of print.sh.
import Derived.Test.YtodjglekfamaaaaPNetx0
import Derived.Test.YtodjglekfamaaaaPNetx1
import Derived.Test.YtodjglekfamaaaaPNetx3
import Derived.Test.YtodjglekfamaaaaPNetx4
import Derived.Test.YtodjglekfamaaaaPNetx5
import Derived.Test.YtodjglekfamaaaaPNetx6
import Derived.Test.YtodjglekfamaaaaPNetx7
namespace Go.Proofs.Ytodjglekfamaaaa.PNet
open Go.RowKit Go.Proofs.YtodjglekfamaaaaW.PrintWords Go.Proofs.YtodjglekfamaaaaW.PrintLast Go.Proofs.YtodjglekfamaaaaW.PrintMore
attribute [local go_sem] max2_int min2_int max_two min_two max_three min_three max_four min_four   -- for this text's walks alone
set_option linter.unusedVariables false
set_option linter.unusedSimpArgs false

attribute [local go_sem high] eqA23
/-! ### haywainlaw22_NetGives: function 5 -/
mutual
def haywainlaw22_NetGives.j0 : Nat → Int → Bool → List (S23) → Option (Bool)
 | 0, _, _, _ => none
 | k + 1, x1, x22, x390000 => if x22 = true then ((haywainlaw22_knows.f k).bind fun t395 => (some t395)) else ((net_Give.f k x390000 x1).bind fun bt396 => (if x1 < 0 then (haywainlaw22_NetGives.j1 k x1 bt396.2.2.2.2.2.2.2.2.2 true x390000 bt396.1 bt396.2.1 bt396.2.2.1 bt396.2.2.2.1 bt396.2.2.2.2.1 bt396.2.2.2.2.2.1 bt396.2.2.2.2.2.2.1 bt396.2.2.2.2.2.2.2.1 bt396.2.2.2.2.2.2.2.2.1) else (haywainlaw22_NetGives.j1 k x1 bt396.2.2.2.2.2.2.2.2.2 (decide (x1 ≥ (x390000.length : Int))) x390000 bt396.1 bt396.2.1 bt396.2.2.1 bt396.2.2.2.1 bt396.2.2.2.2.1 bt396.2.2.2.2.2.1 bt396.2.2.2.2.2.2.1 bt396.2.2.2.2.2.2.2.1 bt396.2.2.2.2.2.2.2.2.1)))
def haywainlaw22_NetGives.j1 : Nat → Int → Int → Bool → List (S23) → List (S23) → Int → Int → Int → Int → Int → Int → Int → ByteArray → Option (Bool)
 | 0, _, _, _, _, _, _, _, _, _, _, _, _, _ => none
 | k + 1, x1, x7, x39, x390000, x409000, x410000, x410001, x410002, x410003, x410004, x410005, x410006, x410007 => if x39 = true then (if x7 = 4 then ((haywainlaw22_As.f k x409000).bind fun t410 => ((haywainlaw22_As.f k x390000).bind fun t413 => ((haywainref22_Same.f k t410 t413).bind fun t416 => (if t416 = true then ((haywainlaw22_knows.f k).bind fun t417 => (some t417)) else (none))))) else (none)) else (if x7 = 0 then (if 0 ≤ x1 then (if x1 < (x390000.length : Int) then (if (!(x410000 == ((rd_T23 x390000 x1).f0)) || (!(x410001 == ((rd_T23 x390000 x1).f1)) || (!(x410002 == ((rd_T23 x390000 x1).f2)) || (!(x410003 == ((rd_T23 x390000 x1).f3)) || (!(x410004 == ((rd_T23 x390000 x1).f4)) || (!(x410005 == ((rd_T23 x390000 x1).f5)) || (!(x410006 == ((rd_T23 x390000 x1).f6)) || (!(x410007.toList == (((rd_T23 x390000 x1).f7).toList)))))))))) = true then (none) else (if (x409000.length : Int) = (wrap64 ((x390000.length : Int) - 1)) then (if x1 ≤ (x409000.length : Int) then ((haywainlaw22_As.f k (x409000.take (x1 : Int).toNat)).bind fun t424 => (if x1 ≤ (x390000.length : Int) then ((haywainlaw22_As.f k (x390000.take (x1 : Int).toNat)).bind fun t432 => ((haywainref22_Same.f k t424 t432).bind fun t435 => (if t435 = true then ((haywainlaw22_As.f k (x409000.drop (x1 : Int).toNat)).bind fun t441 => (if 0 ≤ (wrap64 (x1 + 1)) then (if (wrap64 (x1 + 1)) ≤ (x390000.length : Int) then ((haywainlaw22_As.f k (x390000.drop ((wrap64 (x1 + 1)) : Int).toNat)).bind fun t449 => ((haywainref22_Same.f k t441 t449).bind fun t452 => (haywainlaw22_NetGives.j2 k (!t452) x390000))) else (none)) else (none))) else (none)))) else (none))) else (none)) else (none))) else (none)) else (none)) else (none))
def haywainlaw22_NetGives.j2 : Nat → Bool → List (S23) → Option (Bool)
 | 0, _, _ => none
 | k + 1, x103, x390000 => if x103 = true then (none) else (haywainlaw22_NetGives.l0 k 0 x390000 x390000)
def haywainlaw22_NetGives.l0 : Nat → Int → List (S23) → List (S23) → Option (Bool)
 | 0, _, _, _ => none
 | k + 1, x9, x390000, x454000 => if x9 < (x390000.length : Int) then ((net_Give.f k x454000 0).bind fun bt454 => (if bt454.2.2.2.2.2.2.2.2.2 = 0 then (if 0 ≤ x9 then (if (!(bt454.2.1 == ((rd_T23 x390000 x9).f0)) || (!(bt454.2.2.1 == ((rd_T23 x390000 x9).f1)) || (!(bt454.2.2.2.1 == ((rd_T23 x390000 x9).f2)) || (!(bt454.2.2.2.2.1 == ((rd_T23 x390000 x9).f3)) || (!(bt454.2.2.2.2.2.1 == ((rd_T23 x390000 x9).f4)) || (!(bt454.2.2.2.2.2.2.1 == ((rd_T23 x390000 x9).f5)) || (!(bt454.2.2.2.2.2.2.2.1 == ((rd_T23 x390000 x9).f6)) || (!(bt454.2.2.2.2.2.2.2.2.1.toList == (((rd_T23 x390000 x9).f7).toList)))))))))) = true then (none) else (haywainlaw22_NetGives.l0 k (wrap64 (x9 + 1)) x390000 bt454.1)) else (none)) else (none))) else (if (x454000.length : Int) = 0 then ((haywainlaw22_knows.f k).bind fun t469 => (some t469)) else (none))
end
def haywainlaw22_NetGives.f (k : Nat) (l0_0 : List (S23)) (a1 : Int) : Option (Bool) := (haywainlaw22_great.f k l0_0).bind fun t390 => (if t390 = true then (haywainlaw22_NetGives.j0 k a1 true l0_0) else ((haywainlaw22_As.f k l0_0).bind fun t391 => ((haywainref22_Right.f k t391).bind fun t394 => (haywainlaw22_NetGives.j0 k a1 (!t394) l0_0))))
theorem haywainlaw22_NetGives.mono_l : ∀ k, (∀ y0 y1 y2, LeO (haywainlaw22_NetGives.j0 k y0 y1 y2) (haywainlaw22_NetGives.j0 (k + 1) y0 y1 y2)) ∧ (∀ y0 y1 y2 y3 y4 y5 y6 y7 y8 y9 y10 y11 y12, LeO (haywainlaw22_NetGives.j1 k y0 y1 y2 y3 y4 y5 y6 y7 y8 y9 y10 y11 y12) (haywainlaw22_NetGives.j1 (k + 1) y0 y1 y2 y3 y4 y5 y6 y7 y8 y9 y10 y11 y12)) ∧ (∀ y0 y1, LeO (haywainlaw22_NetGives.j2 k y0 y1) (haywainlaw22_NetGives.j2 (k + 1) y0 y1)) ∧ (∀ y0 y1 y2, LeO (haywainlaw22_NetGives.l0 k y0 y1 y2) (haywainlaw22_NetGives.l0 (k + 1) y0 y1 y2))
 | 0 => ⟨fun _ _ _ r h => by simp [haywainlaw22_NetGives.j0] at h, fun _ _ _ _ _ _ _ _ _ _ _ _ _ r h => by simp [haywainlaw22_NetGives.j1] at h, fun _ _ r h => by simp [haywainlaw22_NetGives.j2] at h, fun _ _ _ r h => by simp [haywainlaw22_NetGives.l0] at h⟩
 | k + 1 => by
  obtain ⟨ih0, ih1, ih2, ih3⟩ := haywainlaw22_NetGives.mono_l k
  refine ⟨?_, ?_, ?_, ?_⟩
  ·intro y0 y1 y2
   unfold haywainlaw22_NetGives.j0
   repeat' first
   | (with_reducible exact ih0 _ _ _)
   | (with_reducible exact ih1 _ _ _ _ _ _ _ _ _ _ _ _ _)
   | (with_reducible exact ih2 _ _)
   | (with_reducible exact ih3 _ _ _)
   | (with_reducible exact haywainlaw22_As.mono _ _)
   | (with_reducible exact haywainlaw22_great.mono _ _)
   | (with_reducible exact haywainlaw22_knows.mono _)
   | (with_reducible exact haywainref22_Right.mono _ _)
   | (with_reducible exact haywainref22_Same.mono _ _ _)
   | (with_reducible exact net_Give.mono _ _ _)
   | (with_reducible exact LeO.refl _)
   | (with_reducible exact LeO.none _)
   | (with_reducible refine LeO.ite ?_ ?_)
   | (with_reducible refine LeO.bind ?_ (fun _ => ?_))
   | exact ih0 _ _ _
   | exact ih1 _ _ _ _ _ _ _ _ _ _ _ _ _
   | exact ih2 _ _
   | exact ih3 _ _ _
   | exact haywainlaw22_As.mono _ _
   | exact haywainlaw22_great.mono _ _
   | exact haywainlaw22_knows.mono _
   | exact haywainref22_Right.mono _ _
   | exact haywainref22_Same.mono _ _ _
   | exact net_Give.mono _ _ _
   | exact LeO.none _
   | refine LeO.ite ?_ ?_
   | refine LeO.bind ?_ (fun _ => ?_)
  ·intro y0 y1 y2 y3 y4 y5 y6 y7 y8 y9 y10 y11 y12
   unfold haywainlaw22_NetGives.j1
   repeat' first
   | (with_reducible exact ih0 _ _ _)
   | (with_reducible exact ih1 _ _ _ _ _ _ _ _ _ _ _ _ _)
   | (with_reducible exact ih2 _ _)
   | (with_reducible exact ih3 _ _ _)
   | (with_reducible exact haywainlaw22_As.mono _ _)
   | (with_reducible exact haywainlaw22_great.mono _ _)
   | (with_reducible exact haywainlaw22_knows.mono _)
   | (with_reducible exact haywainref22_Right.mono _ _)
   | (with_reducible exact haywainref22_Same.mono _ _ _)
   | (with_reducible exact net_Give.mono _ _ _)
   | (with_reducible exact LeO.refl _)
   | (with_reducible exact LeO.none _)
   | (with_reducible refine LeO.ite ?_ ?_)
   | (with_reducible refine LeO.bind ?_ (fun _ => ?_))
   | exact ih0 _ _ _
   | exact ih1 _ _ _ _ _ _ _ _ _ _ _ _ _
   | exact ih2 _ _
   | exact ih3 _ _ _
   | exact haywainlaw22_As.mono _ _
   | exact haywainlaw22_great.mono _ _
   | exact haywainlaw22_knows.mono _
   | exact haywainref22_Right.mono _ _
   | exact haywainref22_Same.mono _ _ _
   | exact net_Give.mono _ _ _
   | exact LeO.none _
   | refine LeO.ite ?_ ?_
   | refine LeO.bind ?_ (fun _ => ?_)
  ·intro y0 y1
   unfold haywainlaw22_NetGives.j2
   repeat' first
   | (with_reducible exact ih0 _ _ _)
   | (with_reducible exact ih1 _ _ _ _ _ _ _ _ _ _ _ _ _)
   | (with_reducible exact ih2 _ _)
   | (with_reducible exact ih3 _ _ _)
   | (with_reducible exact haywainlaw22_As.mono _ _)
   | (with_reducible exact haywainlaw22_great.mono _ _)
   | (with_reducible exact haywainlaw22_knows.mono _)
   | (with_reducible exact haywainref22_Right.mono _ _)
   | (with_reducible exact haywainref22_Same.mono _ _ _)
   | (with_reducible exact net_Give.mono _ _ _)
   | (with_reducible exact LeO.refl _)
   | (with_reducible exact LeO.none _)
   | (with_reducible refine LeO.ite ?_ ?_)
   | (with_reducible refine LeO.bind ?_ (fun _ => ?_))
   | exact ih0 _ _ _
   | exact ih1 _ _ _ _ _ _ _ _ _ _ _ _ _
   | exact ih2 _ _
   | exact ih3 _ _ _
   | exact haywainlaw22_As.mono _ _
   | exact haywainlaw22_great.mono _ _
   | exact haywainlaw22_knows.mono _
   | exact haywainref22_Right.mono _ _
   | exact haywainref22_Same.mono _ _ _
   | exact net_Give.mono _ _ _
   | exact LeO.none _
   | refine LeO.ite ?_ ?_
   | refine LeO.bind ?_ (fun _ => ?_)
  ·intro y0 y1 y2
   unfold haywainlaw22_NetGives.l0
   repeat' first
   | (with_reducible exact ih0 _ _ _)
   | (with_reducible exact ih1 _ _ _ _ _ _ _ _ _ _ _ _ _)
   | (with_reducible exact ih2 _ _)
   | (with_reducible exact ih3 _ _ _)
   | (with_reducible exact haywainlaw22_As.mono _ _)
   | (with_reducible exact haywainlaw22_great.mono _ _)
   | (with_reducible exact haywainlaw22_knows.mono _)
   | (with_reducible exact haywainref22_Right.mono _ _)
   | (with_reducible exact haywainref22_Same.mono _ _ _)
   | (with_reducible exact net_Give.mono _ _ _)
   | (with_reducible exact LeO.refl _)
   | (with_reducible exact LeO.none _)
   | (with_reducible refine LeO.ite ?_ ?_)
   | (with_reducible refine LeO.bind ?_ (fun _ => ?_))
   | exact ih0 _ _ _
   | exact ih1 _ _ _ _ _ _ _ _ _ _ _ _ _
   | exact ih2 _ _
   | exact ih3 _ _ _
   | exact haywainlaw22_As.mono _ _
   | exact haywainlaw22_great.mono _ _
   | exact haywainlaw22_knows.mono _
   | exact haywainref22_Right.mono _ _
   | exact haywainref22_Same.mono _ _ _
   | exact net_Give.mono _ _ _
   | exact LeO.none _
   | refine LeO.ite ?_ ?_
   | refine LeO.bind ?_ (fun _ => ?_)
theorem haywainlaw22_NetGives.mono : ∀ a0 a1 k, LeO (haywainlaw22_NetGives.f k a0 a1) (haywainlaw22_NetGives.f (k + 1) a0 a1) := by
 intro a0 a1 k
 obtain ⟨ih0, ih1, ih2, ih3⟩ := haywainlaw22_NetGives.mono_l k
 unfold haywainlaw22_NetGives.f
 repeat' first
   | (with_reducible exact ih0 _ _ _)
   | (with_reducible exact ih1 _ _ _ _ _ _ _ _ _ _ _ _ _)
   | (with_reducible exact ih2 _ _)
   | (with_reducible exact ih3 _ _ _)
   | (with_reducible exact haywainlaw22_As.mono _ _)
   | (with_reducible exact haywainlaw22_great.mono _ _)
   | (with_reducible exact haywainlaw22_knows.mono _)
   | (with_reducible exact haywainref22_Right.mono _ _)
   | (with_reducible exact haywainref22_Same.mono _ _ _)
   | (with_reducible exact net_Give.mono _ _ _)
   | (with_reducible exact LeO.refl _)
   | (with_reducible exact LeO.none _)
   | (with_reducible refine LeO.ite ?_ ?_)
   | (with_reducible refine LeO.bind ?_ (fun _ => ?_))
   | exact ih0 _ _ _
   | exact ih1 _ _ _ _ _ _ _ _ _ _ _ _ _
   | exact ih2 _ _
   | exact ih3 _ _ _
   | exact haywainlaw22_As.mono _ _
   | exact haywainlaw22_great.mono _ _
   | exact haywainlaw22_knows.mono _
   | exact haywainref22_Right.mono _ _
   | exact haywainref22_Same.mono _ _ _
   | exact net_Give.mono _ _ _
   | exact LeO.none _
   | refine LeO.ite ?_ ?_
   | refine LeO.bind ?_ (fun _ => ?_)
def haywainlaw22_NetGives.T5 : Bool × List (List Nat × List Nat) := (true, [([], []), ([0], [0]), ([1], [1]), ([2], [2]), ([3, 2], [2, 3]), ([4, 2, 2], [2, 4]), ([2], [2]), ([6, 2], [2, 6]), ([7, 5, 2], [2, 7]), ([5, 8, 8, 2], [2, 5, 8]), ([2, 9], [2, 9]), ([10, 9], [10]), ([11, 11], [11]), ([11, 12], [11, 12]), ([13, 12, 0, 1, 2, 3, 4, 5, 6, 7, 8, 9, 10, 11, 12, 13], [13])])
def haywainlaw22_NetGives.B5 : List Nat := [0, 1, 3, 7, 15, 31, 7, 71, 255, 511, 1023, 2047, 4095, 8191, 16383]
theorem haywainlaw22_NetGives.tab5 : rtab .any (opsOf Try.f5 5) = haywainlaw22_NetGives.T5 := by kernel_rfl
theorem haywainlaw22_NetGives.bits5 : waitsOk haywainlaw22_NetGives.T5.2 haywainlaw22_NetGives.B5 = true := by kernel_rfl
def haywainlaw22_NetGives.T6 : Bool × List (List Nat × List Nat) := (true, [([], []), ([0], [0]), ([1], [1]), ([2], [2]), ([2], [2]), ([4, 2], [2, 4]), ([2], [2]), ([5, 6, 2], [2, 5, 6]), ([7, 2], [2, 7]), ([3, 8, 2], [2, 3, 8]), ([2, 9], [2, 9]), ([10, 2], [10]), ([11], [11]), ([12, 11], [11, 12]), ([13, 11], [11, 13]), ([11], [11]), ([15, 11], [11, 15]), ([16, 11], [11, 16]), ([17, 11], [11, 17]), ([14, 18, 11], [11, 14, 18]), ([11, 19], [11, 19]), ([20, 11], [20]), ([21], [21]), ([22, 21], [21, 22]), ([21], [21]), ([23, 24, 21], [21, 23, 24]), ([25, 21, 21], [21, 25]), ([21], [21]), ([27, 21], [21, 27]), ([21], [21]), ([28, 29, 21], [21, 28, 29]), ([30, 26, 21], [21, 30]), ([26, 31, 31, 21], [21, 26, 31]), ([32, 21], [21, 32]), ([21, 33], [21, 33]), ([34, 32], [34]), ([35], [35]), ([36, 35], [35, 36]), ([35], [35]), ([37, 38, 35], [35, 37, 38]), ([39, 35, 35], [35, 39]), ([35], [35]), ([41, 35], [35, 41]), ([35], [35]), ([43, 35], [35, 43]), ([42, 44, 35], [35, 42, 44]), ([45, 40, 35], [35, 45]), ([40, 46, 46, 35], [35, 40, 46]), ([47, 35], [35, 47]), ([35, 48], [35, 48])])
def haywainlaw22_NetGives.B6 : List Nat := [0, 1, 3, 7, 7, 23, 7, 119, 247, 511, 1023, 2047, 4095, 8191, 16383, 4095, 36863, 102399, 233471, 524287, 1048575, 2097151, 4194303, 8388607, 4194303, 33554431, 67108863, 4194303, 138412031, 4194303, 943718399, 2147483647, 4294967295, 8589934591, 17179869183, 34359738367, 68719476735, 137438953471, 68719476735, 549755813887, 1099511627775, 68719476735, 2267742732287, 68719476735, 8864812498943, 33054068310015, 70368744177663, 140737488355327, 281474976710655, 562949953421311]
theorem haywainlaw22_NetGives.tab6 : rtab .any (opsOf Try.f5 6) = haywainlaw22_NetGives.T6 := by kernel_rfl
theorem haywainlaw22_NetGives.bits6 : waitsOk haywainlaw22_NetGives.T6.2 haywainlaw22_NetGives.B6 = true := by kernel_rfl
def haywainlaw22_NetGives.T13 : Bool × List (List Nat × List Nat) := (true, [([], []), ([0], [0]), ([1], [1]), ([2], [2]), ([2], [2]), ([4, 2], [2, 4]), ([2], [2]), ([5, 6, 2], [2, 5, 6]), ([7, 2], [2, 7]), ([3, 8, 2], [2, 3, 8]), ([2, 9], [2, 9])])
def haywainlaw22_NetGives.B13 : List Nat := [0, 1, 3, 7, 7, 23, 7, 119, 247, 511, 1023]
theorem haywainlaw22_NetGives.tab13 : rtab .any (opsOf Try.f5 13) = haywainlaw22_NetGives.T13 := by kernel_rfl
theorem haywainlaw22_NetGives.bits13 : waitsOk haywainlaw22_NetGives.T13.2 haywainlaw22_NetGives.B13 = true := by kernel_rfl
set_option maxHeartbeats 8000000 in
set_option maxRecDepth 100000 in
theorem haywainlaw22_NetGives.calls (k : Nat) (P0_0_ : Nat → Prop) (A0_0 : Option Addr) (c0_0 : Nat) (l0_0 : List (S23)) (a1 : Int) (r : Bool) (w : World) (hs0_0 : Kd.V k23 23 w w.heap.size (fun k_ => P0_0_ k_) (.slice A0_0 l0_0.length c0_0) l0_0) (h : haywainlaw22_NetGives.f k l0_0 a1 = some r) :
  Calls Try.prog 5 #[.agg #[.slice A0_0 l0_0.length c0_0], .int .i64 a1] w fun e w' => e = .returned (.bool r) ∧ Below w.heap.size w w' := by
 have hu26 := Try.underlying26
 have hu23 := Try.underlying23
 have HO0_0 := Aside0.mk (show Kd.V k23 23 w w.heap.size (fun k_ => (P0_0_ k_ ∨ w.heap.size ≤ k_)) (.slice A0_0 l0_0.length c0_0) l0_0 from Kd.V_mono hs0_0 (fun k_ hk => .inl hk))
 have HB := Aside0.mk (Below.refl w.heap.size w)
 have H : ((haywainlaw22_great.f k l0_0).bind fun t390 => (if t390 = true then (haywainlaw22_NetGives.j0 k a1 true l0_0) else ((haywainlaw22_As.f k l0_0).bind fun t391 => ((haywainref22_Right.f k t391).bind fun t394 => (haywainlaw22_NetGives.j0 k a1 (!t394) l0_0))))) = some r := h
 clear h
 have HC3 := Aside0.mk H
 clear H
 go_enter Try.func5, Try.ntmps5
 go_upto_region 1 with (first | ((with_reducible refine gate_dst (N := 2) rfl ?_); (try (refine gate_guard (by rfl) ?_; dsimp only)); refine box_event ?hg (N := 2) ?hd (cs := #[.slice A0_0 l0_0.length c0_0]) (t := 26) ?hr ?_; (case hd => rfl); (case hg => rfl); (case hr => first | (go_simp; done) | (go_simp; rfl)); intro gb389 hg w4 hbox hb; have n0_ := Aside0.mk (Kd.V_below (Kd.V_elderB (by (with_reducible repeat (first | apply Kd.V_alloc | apply Kd.V_drewN | apply Kd.V_drew)); exact HO0_0.out) gb389 (Nat.le_of_eq hg.symm)) hb); have n1_ := Aside0.mk (below_step (by repeat (first | (with_reducible first | exact HB.out | apply below_alloc | apply pw_below_drewN | apply below_drew1) | exact HB.out)) hb); have n2_ := Aside0.mk (hbox); have n3_ := Aside0.mk ((by rw [hg]; exact (below_size (by repeat (first | (with_reducible first | exact HB.out | apply below_alloc | apply pw_below_drewN | apply below_drew1) | exact HB.out))) : w.heap.size ≤ gb389)); have n4_ := Aside0.mk ((by rw [hg]; exact (below_size (by repeat (first | (with_reducible first | exact HB.out | apply below_alloc | apply pw_below_drewN | apply below_drew1) | exact HB.out))) : w.heap.size ≤ gb389)); clear HO0_0; clear HB; have HO0_0 := n0_; have HB := n1_; have BK389 := n2_; have GW389 := n3_; have GE389 := n4_; clear n0_ n1_ n2_ n3_ n4_; clear hb hbox hg))
 (try simp only [Act.put, List.setIfInBounds_toArray, List.set_cons_zero, List.set_cons_succ])
 go_cut [22] (fun v22 wc => ∃ (kq : Nat) (x22_2 : Bool), v22 = .bool x22_2 ∧ Aside0 (haywainlaw22_NetGives.j0 kq a1 x22_2 l0_0 = some r) ∧ Aside0 (kq ≤ k) ∧ Aside0 (Kd.V k23 23 wc w.heap.size (fun k_ => (P0_0_ k_ ∨ w.heap.size ≤ k_) ∧ k_ ≠ gb389) (.slice A0_0 l0_0.length c0_0) l0_0) ∧ Aside0 (wc.heap[gb389]? = some (.cells #[(.slice A0_0 l0_0.length c0_0)] 26 (0, 0))) ∧ Aside0 (Below w.heap.size w wc))
 case first =>
  have H := HC3.out
  clear HC3
  replace H := Option.bind_eq_some_iff.mp H
  obtain ⟨t390, A50, H⟩ := H
  replace H : (if t390 = true then (haywainlaw22_NetGives.j0 k a1 true l0_0) else ((haywainlaw22_As.f k l0_0).bind fun t391 => ((haywainref22_Right.f k t391).bind fun t394 => (haywainlaw22_NetGives.j0 k a1 (!t394) l0_0)))) = some r := H
  have A5 := Aside0.mk A50
  clear A50
  by_cases c6 : t390 = true
  ·subst c6
   have H1 : (haywainlaw22_NetGives.j0 k a1 true l0_0) = some r := by rw [if_pos rfl] at H; exact H
   clear H
   have H := H1
   clear H1
   have H' := Aside0.mk H
   clear H
   have hcz7_0 : w4.cell? ⟨gb389, 0, none⟩ = some (.slice A0_0 l0_0.length c0_0) := (blk_cell BK389.out 0).trans rfl
   have hfz7_0 := blk_frozen BK389.out 0
   go_wp2_with (first | ((with_reducible refine gate_callee (f := 8) rfl ?_); refine goesL_ (some 15) rfl rfl Try.func8 (by kernel_rfl) rfl #[.slice A0_0 l0_0.length c0_0] rfl (by (try simp only [List.map_toArray, List.map_cons, List.map_nil]); first | done | rfl | (simp only [List.length_drop, List.length_take]; rfl)) ?_; (with_reducible refine (haywainlaw22_great.calls k _ _ l0_0 true _ ?side1 ?side2 A5.out).mono ?_); (case side1 => repeat (first | exact (Kd.V_reads' HO0_0.out).2.2 | (with_reducible refine Kd.C_alloc ?_ _) | (with_reducible refine Kd.C_drewN ?_ _) | (with_reducible refine Kd.C_drew ?_))); (case side2 => exact (Kd.V_reads' HO0_0.out).2.1); rintro e w' ⟨rfl, ⟨nd, rfl⟩⟩; refine ⟨_, rfl, ?_⟩))
   go_meet
   case rel => exact ⟨_, (true), (by first | rfl | (simp; done) | (simp [*]; done)), H', ⟨by first | omega | exact Nat.le_refl _⟩, ⟨by (with_reducible repeat (first | apply Kd.V_alloc | apply Kd.V_drewN | apply Kd.V_drew)); exact HO0_0.out⟩, ⟨by (with_reducible repeat (first | refine blk_drewN ?_ _ | refine blk_drew ?_ | refine blk_alloc ?_ _)); exact BK389.out⟩, ⟨by repeat (first | (with_reducible first | exact HB.out | apply below_alloc | apply pw_below_drewN | apply below_drew1 | refine below_set ?_ GE389.out) | exact HB.out)⟩⟩
  ·replace c6 := Bool.eq_false_iff.mpr c6
   subst c6
   have H1 : ((haywainlaw22_As.f k l0_0).bind fun t391 => ((haywainref22_Right.f k t391).bind fun t394 => (haywainlaw22_NetGives.j0 k a1 (!t394) l0_0))) = some r := by rw [if_neg (show ¬ (false = true) by decide)] at H; exact H
   clear H
   have H := H1
   clear H1
   replace H := Option.bind_eq_some_iff.mp H
   obtain ⟨t391, A80, H⟩ := H
   replace H : ((haywainref22_Right.f k t391).bind fun t394 => (haywainlaw22_NetGives.j0 k a1 (!t394) l0_0)) = some r := H
   have A8 := Aside0.mk A80
   clear A80
   replace H := Option.bind_eq_some_iff.mp H
   obtain ⟨t394, A90, H⟩ := H
   replace H : (haywainlaw22_NetGives.j0 k a1 (!t394) l0_0) = some r := H
   have A9 := Aside0.mk A90
   clear A90
   have H' := Aside0.mk H
   clear H
   have hcz10_0 : w4.cell? ⟨gb389, 0, none⟩ = some (.slice A0_0 l0_0.length c0_0) := (blk_cell BK389.out 0).trans rfl
   have hfz10_0 := blk_frozen BK389.out 0
   go_wp2_with (first | ((with_reducible refine gate_callee (f := 8) rfl ?_); refine goesL_ (some 15) rfl rfl Try.func8 (by kernel_rfl) rfl #[.slice A0_0 l0_0.length c0_0] rfl (by (try simp only [List.map_toArray, List.map_cons, List.map_nil]); first | done | rfl | (simp only [List.length_drop, List.length_take]; rfl)) ?_; (with_reducible refine (haywainlaw22_great.calls k _ _ l0_0 false _ ?side1 ?side2 A5.out).mono ?_); (case side1 => repeat (first | exact (Kd.V_reads' HO0_0.out).2.2 | (with_reducible refine Kd.C_alloc ?_ _) | (with_reducible refine Kd.C_drewN ?_ _) | (with_reducible refine Kd.C_drew ?_))); (case side2 => exact (Kd.V_reads' HO0_0.out).2.1); rintro e w' ⟨rfl, ⟨nd, rfl⟩⟩; refine ⟨_, rfl, ?_⟩) | (go_at_call 12; (with_reducible refine (haywainlaw22_As.calls k _ _ l0_0 t391 _ ?side1 ?side2 A8.out).mono ?_); (case side1 => repeat (first | exact (Kd.V_reads' HO0_0.out).2.2 | (with_reducible refine Kd.C_alloc ?_ _) | (with_reducible refine Kd.C_drewN ?_ _) | (with_reducible refine Kd.C_drew ?_))); (case side2 => exact (Kd.V_reads' HO0_0.out).2.1); rintro e w11 ⟨v392, rfl, ho0, hb⟩; have n0_ := Aside0.mk (Kd.V_elder' (by (with_reducible repeat (first | apply Kd.V_alloc | apply Kd.V_drewN | apply Kd.V_drew)); exact HO0_0.out) (Kd.R_base ho0) hb); have n1_ := Aside0.mk (Kd.R_lower (Kd.R_newM (M := fun k_ => (w.heap.size ≤ k_)) ho0 (below_size (by repeat (first | (with_reducible first | exact HB.out | apply below_alloc | apply pw_below_drewN | apply below_drew1 | refine below_set ?_ GE389.out) | exact HB.out))) (fun k_ h_ => h_)) (below_size (by repeat (first | (with_reducible first | exact HB.out | apply below_alloc | apply pw_below_drewN | apply below_drew1 | refine below_set ?_ GE389.out) | exact HB.out)))); have n2_ := Aside0.mk (blk_below (g := gb389) (o := .cells #[.slice A0_0 l0_0.length c0_0] 26 (0, 0)) (by (with_reducible repeat (first | refine blk_drewN ?_ _ | refine blk_drew ?_ | refine blk_alloc ?_ _)); exact BK389.out) hb); have n3_ := Aside0.mk (below_step (by repeat (first | (with_reducible first | exact HB.out | apply below_alloc | apply pw_below_drewN | apply below_drew1 | refine below_set ?_ GE389.out) | exact HB.out)) hb); clear HO0_0; clear BK389; clear HB; have HO0_0 := n0_; have HO393 := n1_; have BK389 := n2_; have HB := n3_; clear n0_ n1_ n2_ n3_; (try clear hb); (try clear hb2); (try clear hk); (try clear hi); (try clear ho0); obtain ⟨Ao12, co12, eo12⟩ := Kd.R_slice HO393.out; subst eo12) | (go_at_call 14; (with_reducible refine (haywainref22_Right.calls k _ _ t391 t394 _ ?side1 ?side2 A9.out).mono ?_); (case side1 => repeat (first | exact (Kd.R_reads' HO393.out).2.2 | (with_reducible refine Kd.C_alloc ?_ _) | (with_reducible refine Kd.C_drewN ?_ _) | (with_reducible refine Kd.C_drew ?_))); (case side2 => exact (Kd.R_reads' HO393.out).2.1); rintro e w13 ⟨rfl, hb⟩; have n0_ := Aside0.mk (Kd.V_below (by (with_reducible repeat (first | apply Kd.V_alloc | apply Kd.V_drewN | apply Kd.V_drew)); exact HO0_0.out) hb); have n1_ := Aside0.mk (Kd.R_below (by (with_reducible repeat (first | apply Kd.R_alloc | apply Kd.R_drewN | apply Kd.R_drew)); exact HO393.out) hb); have n2_ := Aside0.mk (blk_below (g := gb389) (o := .cells #[.slice A0_0 l0_0.length c0_0] 26 (0, 0)) (by (with_reducible repeat (first | refine blk_drewN ?_ _ | refine blk_drew ?_ | refine blk_alloc ?_ _)); exact BK389.out) hb); have n3_ := Aside0.mk (below_step (by repeat (first | (with_reducible first | exact HB.out | apply below_alloc | apply pw_below_drewN | apply below_drew1 | refine below_set ?_ GE389.out) | exact HB.out)) hb); clear HO0_0; clear HO393; clear BK389; clear HB; have HO0_0 := n0_; have HO393 := n1_; have BK389 := n2_; have HB := n3_; clear n0_ n1_ n2_ n3_; (try clear hb); (try clear hb2); (try clear hk); (try clear hi)))
   go_meet
   case rel => exact ⟨_, (!t394), (by first | rfl | (simp; done) | (simp [*]; done)), H', ⟨by first | omega | exact Nat.le_refl _⟩, ⟨by (with_reducible repeat (first | apply Kd.V_alloc | apply Kd.V_drewN | apply Kd.V_drew)); exact Kd.V_mono HO0_0.out (fun _ hk => ⟨hk.1.1, hk.1.2⟩)⟩, ⟨by (with_reducible repeat (first | refine blk_drewN ?_ _ | refine blk_drew ?_ | refine blk_alloc ?_ _)); exact BK389.out⟩, ⟨by repeat (first | (with_reducible first | exact HB.out | apply below_alloc | apply pw_below_drewN | apply below_drew1 | refine below_set ?_ GE389.out) | exact HB.out)⟩⟩
 case rest =>
  clear HC3
  try clear p2
  try clear c5
  try clear c6
  try clear c8
  try clear hcz10_0
  try clear hcz7_0
  try clear hfz10_0
  try clear hfz7_0
  obtain ⟨kq, x22_2, rfl, HA, HJ2, HO_390000, BK389, HB⟩ := hcut
  cases kq with
  | zero => exact absurd HA.out (by simp [haywainlaw22_NetGives.j0])
  | succ kj2 =>
   have H := HA.out
   clear HA
   simp only [haywainlaw22_NetGives.j0] at H
   by_cases c14 : x22_2 = true
   ·subst c14
    have H1 : ((haywainlaw22_knows.f kj2).bind fun t395 => (some t395)) = some r := by rw [if_pos rfl] at H; exact H
    clear H
    have H := H1
    clear H1
    replace H := Option.bind_eq_some_iff.mp H
    obtain ⟨t395, A150, H⟩ := H
    replace H : (some t395) = some r := H
    have A15 := Aside0.mk A150
    clear A150
    obtain rfl := Option.some.inj H
    go_wp2_with (first | ((with_reducible refine gate_callee (f := 9) rfl ?_); refine goesL_ (some 23) rfl rfl Try.func9 (by kernel_rfl) rfl #[] rfl (by (try simp only [List.map_toArray, List.map_cons, List.map_nil]); first | done | rfl | (simp only [List.length_drop, List.length_take]; rfl)) ?_; (with_reducible refine (haywainlaw22_knows.calls kj2  t395 _ A15.out).mono ?_); rintro e w16 ⟨rfl, hb⟩; refine ⟨_, rfl, ?_⟩; have n0_ := Aside0.mk (Kd.V_below (by (with_reducible repeat (first | apply Kd.V_alloc | apply Kd.V_drewN | apply Kd.V_drew)); exact HO_390000.out) hb); have n1_ := Aside0.mk (blk_below (g := gb389) (o := .cells #[.slice A0_0 l0_0.length c0_0] 26 (0, 0)) (by (with_reducible repeat (first | refine blk_drewN ?_ _ | refine blk_drew ?_ | refine blk_alloc ?_ _)); exact BK389.out) hb); have n2_ := Aside0.mk (below_step (by repeat (first | (with_reducible first | exact HB.out | apply below_alloc | apply pw_below_drewN | apply below_drew1 | refine below_set ?_ GE389.out) | exact HB.out)) hb); clear HO_390000; clear BK389; clear HB; have HO_390000 := n0_; have BK389 := n1_; have HB := n2_; clear n0_ n1_ n2_; (try clear hb); (try clear hb2); (try clear hk); (try clear hi)))
    go_ret
    exact ⟨by first | rfl | (simp [errW_none, errW_some] <;> rfl) | (simp [*, errW_none, errW_some] <;> rfl), by repeat (first | (with_reducible first | exact HB.out | apply below_alloc | apply pw_below_drewN | apply below_drew1 | refine below_set ?_ GE389.out) | exact HB.out)⟩
   ·replace c14 := Bool.eq_false_iff.mpr c14
    subst c14
    have H1 : ((net_Give.f kj2 l0_0 a1).bind fun bt396 => (if a1 < 0 then (haywainlaw22_NetGives.j1 kj2 a1 bt396.2.2.2.2.2.2.2.2.2 true l0_0 bt396.1 bt396.2.1 bt396.2.2.1 bt396.2.2.2.1 bt396.2.2.2.2.1 bt396.2.2.2.2.2.1 bt396.2.2.2.2.2.2.1 bt396.2.2.2.2.2.2.2.1 bt396.2.2.2.2.2.2.2.2.1) else (haywainlaw22_NetGives.j1 kj2 a1 bt396.2.2.2.2.2.2.2.2.2 (decide (a1 ≥ (l0_0.length : Int))) l0_0 bt396.1 bt396.2.1 bt396.2.2.1 bt396.2.2.2.1 bt396.2.2.2.2.1 bt396.2.2.2.2.2.1 bt396.2.2.2.2.2.2.1 bt396.2.2.2.2.2.2.2.1 bt396.2.2.2.2.2.2.2.2.1))) = some r := by rw [if_neg (show ¬ (false = true) by decide)] at H; exact H
    clear H
    have H := H1
    clear H1
    replace H := Option.bind_eq_some_iff.mp H
    obtain ⟨⟨t396, t399, t400, t401, t402, t403, t404, t405, t406, t407⟩, A170, H⟩ := H
    replace H : (if a1 < 0 then (haywainlaw22_NetGives.j1 kj2 a1 t407 true l0_0 t396 t399 t400 t401 t402 t403 t404 t405 t406) else (haywainlaw22_NetGives.j1 kj2 a1 t407 (decide (a1 ≥ (l0_0.length : Int))) l0_0 t396 t399 t400 t401 t402 t403 t404 t405 t406)) = some r := H
    have A17 := Aside0.mk A170
    clear A170
    have HC18 := Aside0.mk H
    clear H
    have hcz19_0 : wc.cell? ⟨gb389, 0, none⟩ = some (.slice A0_0 l0_0.length c0_0) := (blk_cell BK389.out 0).trans rfl
    have hfz19_0 := blk_frozen BK389.out 0
    go_upto_region 4 with (first | ((with_reducible refine gate_callee (f := 17) rfl ?_); refine goesL_ (some 27) rfl rfl Try.func17 (by kernel_rfl) rfl #[.agg #[.slice A0_0 l0_0.length c0_0], .int .i64 a1] rfl (by (try simp only [List.map_toArray, List.map_cons, List.map_nil]); first | done | rfl | (simp only [List.length_drop, List.length_take]; rfl)) ?_; (with_reducible refine (net_Give.calls kj2 _ _ l0_0 a1 t396 t399 t400 t401 t402 t403 t404 t405 t406 t407 _ ?side1 ?side2 A17.out).mono ?_); (case side1 => repeat (first | exact (Kd.V_reads' HO_390000.out).2.2 | (with_reducible refine Kd.C_alloc ?_ _) | (with_reducible refine Kd.C_drewN ?_ _) | (with_reducible refine Kd.C_drew ?_))); (case side2 => exact (Kd.V_reads' HO_390000.out).2.1); rintro e w20 ⟨v397, rfl, ho0, hb⟩; refine ⟨_, rfl, ?_⟩; have n0_ := Aside0.mk (Kd.V_below (by (with_reducible repeat (first | apply Kd.V_alloc | apply Kd.V_drewN | apply Kd.V_drew)); exact HO_390000.out) hb); have n1_ := Aside0.mk (Kd.V_lower (Kd.V_mono (ok' := fun k_ => (P0_0_ k_ ∨ w.heap.size ≤ k_) ∧ k_ ≠ gb389) ho0 (fun k_ hk_ => ⟨(.inr (Nat.le_trans (below_size (by repeat (first | (with_reducible first | exact HB.out | apply below_alloc | apply pw_below_drewN | apply below_drew1 | refine below_set ?_ GE389.out) | exact HB.out))) hk_)), (Kd.freshB (g := gb389) (o := .cells #[.slice A0_0 l0_0.length c0_0] 26 (0, 0)) (by (with_reducible repeat (first | refine blk_drewN ?_ _ | refine blk_drew ?_ | refine blk_alloc ?_ _)); exact BK389.out) k_ hk_)⟩)) (below_size (by repeat (first | (with_reducible first | exact HB.out | apply below_alloc | apply pw_below_drewN | apply below_drew1 | refine below_set ?_ GE389.out) | exact HB.out)))); have n2_ := Aside0.mk (blk_below (g := gb389) (o := .cells #[.slice A0_0 l0_0.length c0_0] 26 (0, 0)) (by (with_reducible repeat (first | refine blk_drewN ?_ _ | refine blk_drew ?_ | refine blk_alloc ?_ _)); exact BK389.out) hb); have n3_ := Aside0.mk (below_step (by repeat (first | (with_reducible first | exact HB.out | apply below_alloc | apply pw_below_drewN | apply below_drew1 | refine below_set ?_ GE389.out) | exact HB.out)) hb); clear HO_390000; clear BK389; clear HB; have HO_390000 := n0_; have HO398 := n1_; have BK389 := n2_; have HB := n3_; clear n0_ n1_ n2_ n3_; (try clear hb); (try clear hb2); (try clear hk); (try clear hi); (try clear ho0)) | ((with_reducible refine gate_dst (N := 5) rfl ?_); (try (refine gate_guard (by rfl) ?_; dsimp only)); refine box_event ?hg (N := 5) ?hd (cs := #[.slice none 0 0]) (t := 26) ?hr ?_; (case hd => rfl); (case hg => rfl); (case hr => first | (go_simp; done) | (go_simp; rfl)); intro gb408 hg w21 hbox hb; have n0_ := Aside0.mk (Kd.V_below (Kd.V_elderB (by (with_reducible repeat (first | apply Kd.V_alloc | apply Kd.V_drewN | apply Kd.V_drew)); exact HO_390000.out) gb408 (Nat.le_of_eq hg.symm)) hb); have n1_ := Aside0.mk (Kd.V_below (Kd.V_elderB (by (with_reducible repeat (first | apply Kd.V_alloc | apply Kd.V_drewN | apply Kd.V_drew)); exact HO398.out) gb408 (Nat.le_of_eq hg.symm)) hb); have n2_ := Aside0.mk (blk_below (g := gb389) (o := .cells #[.slice A0_0 l0_0.length c0_0] 26 (0, 0)) (by (with_reducible repeat (first | refine blk_drewN ?_ _ | refine blk_drew ?_ | refine blk_alloc ?_ _)); exact BK389.out) hb); have n3_ := Aside0.mk (below_step (by repeat (first | (with_reducible first | exact HB.out | apply below_alloc | apply pw_below_drewN | apply below_drew1 | refine below_set ?_ GE389.out) | exact HB.out)) hb); have n4_ := Aside0.mk (hbox); have n5_ := Aside0.mk ((by rw [hg]; exact (below_size (by repeat (first | (with_reducible first | exact HB.out | apply below_alloc | apply pw_below_drewN | apply below_drew1 | refine below_set ?_ GE389.out) | exact HB.out))) : w.heap.size ≤ gb408)); have n6_ := Aside0.mk ((by rw [hg]; exact (below_size (by repeat (first | (with_reducible first | exact HB.out | apply below_alloc | apply pw_below_drewN | apply below_drew1 | refine below_set ?_ GE389.out) | exact HB.out))) : w.heap.size ≤ gb408)); have n7_ := Aside0.mk ((by rw [hg]; exact Nat.ne_of_lt (blk_lt (g := gb389) (o := .cells #[.slice A0_0 l0_0.length c0_0] 26 (0, 0)) (by (with_reducible repeat (first | refine blk_drewN ?_ _ | refine blk_drew ?_ | refine blk_alloc ?_ _)); exact BK389.out)) : gb389 ≠ gb408)); have n8_ := Aside0.mk ((by rw [hg]; exact Nat.ne_of_gt (blk_lt (g := gb389) (o := .cells #[.slice A0_0 l0_0.length c0_0] 26 (0, 0)) (by (with_reducible repeat (first | refine blk_drewN ?_ _ | refine blk_drew ?_ | refine blk_alloc ?_ _)); exact BK389.out)) : gb408 ≠ gb389)); clear HO_390000; clear HO398; clear BK389; clear HB; have HO_390000 := n0_; have HO398 := n1_; have BK389 := n2_; have HB := n3_; have BK408 := n4_; have GW408 := n5_; have GE408 := n6_; have NB389_408 := n7_; have NB408_389 := n8_; clear n0_ n1_ n2_ n3_ n4_ n5_ n6_ n7_ n8_; clear hb hbox hg) | ((with_reducible refine gate_dst (N := 6) rfl ?_); (try (refine gate_guard (by rfl) ?_; dsimp only)); refine box_event ?hg (N := 6) ?hd (cs := #[.int .i64 0, .int .i64 0, .int .i64 0, .int .i64 0, .int .i64 0, .int .i64 0, .int .i64 0, .string (⟨#[]⟩ : ByteArray)]) (t := 23) ?hr ?_; (case hd => rfl); (case hg => rfl); (case hr => first | (go_simp; done) | (go_simp; rfl)); intro gb409 hg w22 hbox hb; have n0_ := Aside0.mk (Kd.V_below (Kd.V_elderB (by (with_reducible repeat (first | apply Kd.V_alloc | apply Kd.V_drewN | apply Kd.V_drew)); exact HO_390000.out) gb409 (Nat.le_of_eq hg.symm)) hb); have n1_ := Aside0.mk (Kd.V_below (Kd.V_elderB (by (with_reducible repeat (first | apply Kd.V_alloc | apply Kd.V_drewN | apply Kd.V_drew)); exact HO398.out) gb409 (Nat.le_of_eq hg.symm)) hb); have n2_ := Aside0.mk (blk_below (g := gb389) (o := .cells #[.slice A0_0 l0_0.length c0_0] 26 (0, 0)) (by (with_reducible repeat (first | refine blk_drewN ?_ _ | refine blk_drew ?_ | refine blk_alloc ?_ _)); exact BK389.out) hb); have n3_ := Aside0.mk (blk_below (g := gb408) (o := .cells #[.slice none 0 0] 26 (0, 0)) (by (with_reducible repeat (first | refine blk_drewN ?_ _ | refine blk_drew ?_ | refine blk_alloc ?_ _)); exact BK408.out) hb); have n4_ := Aside0.mk (below_step (by repeat (first | (with_reducible first | exact HB.out | apply below_alloc | apply pw_below_drewN | apply below_drew1 | refine below_set ?_ GE389.out | refine below_set ?_ GE408.out) | exact HB.out)) hb); have n5_ := Aside0.mk (hbox); have n6_ := Aside0.mk ((by rw [hg]; exact (below_size (by repeat (first | (with_reducible first | exact HB.out | apply below_alloc | apply pw_below_drewN | apply below_drew1 | refine below_set ?_ GE389.out | refine below_set ?_ GE408.out) | exact HB.out))) : w.heap.size ≤ gb409)); have n7_ := Aside0.mk ((by rw [hg]; exact (below_size (by repeat (first | (with_reducible first | exact HB.out | apply below_alloc | apply pw_below_drewN | apply below_drew1 | refine below_set ?_ GE389.out | refine below_set ?_ GE408.out) | exact HB.out))) : w.heap.size ≤ gb409)); have n8_ := Aside0.mk ((by rw [hg]; exact Nat.ne_of_lt (blk_lt (g := gb389) (o := .cells #[.slice A0_0 l0_0.length c0_0] 26 (0, 0)) (by (with_reducible repeat (first | refine blk_drewN ?_ _ | refine blk_drew ?_ | refine blk_alloc ?_ _)); exact BK389.out)) : gb389 ≠ gb409)); have n9_ := Aside0.mk ((by rw [hg]; exact Nat.ne_of_gt (blk_lt (g := gb389) (o := .cells #[.slice A0_0 l0_0.length c0_0] 26 (0, 0)) (by (with_reducible repeat (first | refine blk_drewN ?_ _ | refine blk_drew ?_ | refine blk_alloc ?_ _)); exact BK389.out)) : gb409 ≠ gb389)); have n10_ := Aside0.mk ((by rw [hg]; exact Nat.ne_of_lt (blk_lt (g := gb408) (o := .cells #[.slice none 0 0] 26 (0, 0)) (by (with_reducible repeat (first | refine blk_drewN ?_ _ | refine blk_drew ?_ | refine blk_alloc ?_ _)); exact BK408.out)) : gb408 ≠ gb409)); have n11_ := Aside0.mk ((by rw [hg]; exact Nat.ne_of_gt (blk_lt (g := gb408) (o := .cells #[.slice none 0 0] 26 (0, 0)) (by (with_reducible repeat (first | refine blk_drewN ?_ _ | refine blk_drew ?_ | refine blk_alloc ?_ _)); exact BK408.out)) : gb409 ≠ gb408)); clear HO_390000; clear HO398; clear BK389; clear BK408; clear HB; have HO_390000 := n0_; have HO398 := n1_; have BK389 := n2_; have BK408 := n3_; have HB := n4_; have BK409 := n5_; have GW409 := n6_; have GE409 := n7_; have NB389_409 := n8_; have NB409_389 := n9_; have NB408_409 := n10_; have NB409_408 := n11_; clear n0_ n1_ n2_ n3_ n4_ n5_ n6_ n7_ n8_ n9_ n10_ n11_; clear hb hbox hg; obtain ⟨Ao23, co23, eo23⟩ := Kd.V_slice HO398.out; subst eo23; have hnb24 := NB408_389.out; have hnc24 := NB389_408.out; have hnb25 := NB408_409.out; have hnc25 := NB409_408.out; have hcz26_0 : w22.cell? ⟨gb408, 0, none⟩ = some (.slice none 0 0) := (blk_cell BK408.out 0).trans rfl; have hfz26_0 := blk_frozen BK408.out 0; have hnb27 := NB409_389.out; have hnc27 := NB389_409.out; have hcz28_0 : w22.cell? ⟨gb409, 0, none⟩ = some (.int .i64 0) := (blk_cell BK409.out 0).trans rfl; have hcz28_1 : w22.cell? ⟨gb409, 1, none⟩ = some (.int .i64 0) := (blk_cell BK409.out 1).trans rfl; have hcz28_2 : w22.cell? ⟨gb409, 2, none⟩ = some (.int .i64 0) := (blk_cell BK409.out 2).trans rfl; have hcz28_3 : w22.cell? ⟨gb409, 3, none⟩ = some (.int .i64 0) := (blk_cell BK409.out 3).trans rfl; have hcz28_4 : w22.cell? ⟨gb409, 4, none⟩ = some (.int .i64 0) := (blk_cell BK409.out 4).trans rfl; have hcz28_5 : w22.cell? ⟨gb409, 5, none⟩ = some (.int .i64 0) := (blk_cell BK409.out 5).trans rfl; have hcz28_6 : w22.cell? ⟨gb409, 6, none⟩ = some (.int .i64 0) := (blk_cell BK409.out 6).trans rfl; have hcz28_7 : w22.cell? ⟨gb409, 7, none⟩ = some (.string (⟨#[]⟩ : ByteArray)) := (blk_cell BK409.out 7).trans rfl; have hfz28_0 := blk_frozen BK409.out 0; have hfz28_1 := blk_frozen BK409.out 1; have hfz28_2 := blk_frozen BK409.out 2; have hfz28_3 := blk_frozen BK409.out 3; have hfz28_4 := blk_frozen BK409.out 4; have hfz28_5 := blk_frozen BK409.out 5; have hfz28_6 := blk_frozen BK409.out 6; have hfz28_7 := blk_frozen BK409.out 7))
    (try simp only [Act.put, List.setIfInBounds_toArray, List.set_cons_zero, List.set_cons_succ])
    go_cut [39] (fun v39 wc => ∃ (kq : Nat) (x39_17 : Bool), v39 = .bool x39_17 ∧ Aside0 (haywainlaw22_NetGives.j1 kq a1 t407 x39_17 l0_0 t396 t399 t400 t401 t402 t403 t404 t405 t406 = some r) ∧ Aside0 (kq ≤ kj2) ∧ Aside0 (Kd.V k23 23 wc w.heap.size (fun k_ => (P0_0_ k_ ∨ w.heap.size ≤ k_) ∧ k_ ≠ gb389 ∧ k_ ≠ gb408 ∧ k_ ≠ gb409) (.slice A0_0 l0_0.length c0_0) l0_0) ∧ Aside0 (Kd.V k23 23 wc w.heap.size (fun k_ => (P0_0_ k_ ∨ w.heap.size ≤ k_) ∧ k_ ≠ gb389 ∧ k_ ≠ gb408 ∧ k_ ≠ gb409) (.slice Ao23 t396.length co23) t396) ∧ Aside0 (wc.heap[gb389]? = some (.cells #[(.slice A0_0 l0_0.length c0_0)] 26 (0, 0))) ∧ Aside0 (wc.heap[gb408]? = some (.cells #[(.slice Ao23 t396.length co23)] 26 (0, 0))) ∧ Aside0 (wc.heap[gb409]? = some (.cells #[.int .i64 t399, .int .i64 t400, .int .i64 t401, .int .i64 t402, .int .i64 t403, .int .i64 t404, .int .i64 t405, .string t406] 23 (0, 0))) ∧ Aside0 (Below w.heap.size w wc))
    case first =>
     have H := HC18.out
     clear HC18
     by_cases c29 : a1 < 0
     ·rw [if_pos c29] at H
      have c29b0 : decide (a1 < 0) = true := decide_eq_true c29
      clear c29
      (first | rw [c29b0] | (simp only [i64_w, i32_w]; rw [c29b0]) | skip)
      have H' := Aside0.mk H
      clear H
      go_wp2
      go_meet
      case rel => exact ⟨_, (true), (by first | rfl | (simp; done) | (simp [*]; done)), H', ⟨by have := HJ2.out; first | omega | exact Nat.le_refl _⟩, ⟨by (with_reducible repeat (first | apply Kd.V_alloc | apply Kd.V_drewN | apply Kd.V_drew)); exact Kd.V_mono (Kd.V_far (p := ⟨gb409, 7, none⟩) (Kd.V_far (p := ⟨gb409, 6, none⟩) (Kd.V_far (p := ⟨gb409, 5, none⟩) (Kd.V_far (p := ⟨gb409, 4, none⟩) (Kd.V_far (p := ⟨gb409, 3, none⟩) (Kd.V_far (p := ⟨gb409, 2, none⟩) (Kd.V_far (p := ⟨gb409, 1, none⟩) (Kd.V_far (p := ⟨gb409, 0, none⟩) (Kd.V_far (p := ⟨gb408, 0, none⟩) (Kd.V_mono (Kd.V_mono HO_390000.out (fun k_ hk => (⟨hk, hk.1.2⟩ : _ ∧ k_ ≠ gb408))) (fun k_ hk => (⟨hk, hk.1.2⟩ : _ ∧ k_ ≠ gb409))) (fun _ hk => hk.1.2) (.slice Ao23 t396.length co23)) (fun _ hk => hk.2) (.int .i64 t399)) (fun _ hk => hk.2) (.int .i64 t400)) (fun _ hk => hk.2) (.int .i64 t401)) (fun _ hk => hk.2) (.int .i64 t402)) (fun _ hk => hk.2) (.int .i64 t403)) (fun _ hk => hk.2) (.int .i64 t404)) (fun _ hk => hk.2) (.int .i64 t405)) (fun _ hk => hk.2) (.string t406)) (fun _ hk => ⟨hk.1.1.1.1.1, ⟨hk.1.1.1.1.2, ⟨hk.1.1.1.2, hk.1.1.2⟩⟩⟩)⟩, ⟨by (with_reducible repeat (first | apply Kd.V_alloc | apply Kd.V_drewN | apply Kd.V_drew)); exact Kd.V_mono (Kd.V_far (p := ⟨gb409, 7, none⟩) (Kd.V_far (p := ⟨gb409, 6, none⟩) (Kd.V_far (p := ⟨gb409, 5, none⟩) (Kd.V_far (p := ⟨gb409, 4, none⟩) (Kd.V_far (p := ⟨gb409, 3, none⟩) (Kd.V_far (p := ⟨gb409, 2, none⟩) (Kd.V_far (p := ⟨gb409, 1, none⟩) (Kd.V_far (p := ⟨gb409, 0, none⟩) (Kd.V_far (p := ⟨gb408, 0, none⟩) (Kd.V_mono (Kd.V_mono HO398.out (fun k_ hk => (⟨hk, hk.1.2⟩ : _ ∧ k_ ≠ gb408))) (fun k_ hk => (⟨hk, hk.1.2⟩ : _ ∧ k_ ≠ gb409))) (fun _ hk => hk.1.2) (.slice Ao23 t396.length co23)) (fun _ hk => hk.2) (.int .i64 t399)) (fun _ hk => hk.2) (.int .i64 t400)) (fun _ hk => hk.2) (.int .i64 t401)) (fun _ hk => hk.2) (.int .i64 t402)) (fun _ hk => hk.2) (.int .i64 t403)) (fun _ hk => hk.2) (.int .i64 t404)) (fun _ hk => hk.2) (.int .i64 t405)) (fun _ hk => hk.2) (.string t406)) (fun _ hk => ⟨hk.1.1.1.1.1, ⟨hk.1.1.1.1.2, ⟨hk.1.1.1.2, hk.1.1.2⟩⟩⟩)⟩, ⟨by (with_reducible repeat (first | refine blk_drewN ?_ _ | refine blk_drew ?_ | refine blk_alloc ?_ _)); refine blk_far ?_ NB389_409.out _; (with_reducible repeat (first | refine blk_drewN ?_ _ | refine blk_drew ?_ | refine blk_alloc ?_ _)); refine blk_far ?_ NB389_409.out _; (with_reducible repeat (first | refine blk_drewN ?_ _ | refine blk_drew ?_ | refine blk_alloc ?_ _)); refine blk_far ?_ NB389_409.out _; (with_reducible repeat (first | refine blk_drewN ?_ _ | refine blk_drew ?_ | refine blk_alloc ?_ _)); refine blk_far ?_ NB389_409.out _; (with_reducible repeat (first | refine blk_drewN ?_ _ | refine blk_drew ?_ | refine blk_alloc ?_ _)); refine blk_far ?_ NB389_409.out _; (with_reducible repeat (first | refine blk_drewN ?_ _ | refine blk_drew ?_ | refine blk_alloc ?_ _)); refine blk_far ?_ NB389_409.out _; (with_reducible repeat (first | refine blk_drewN ?_ _ | refine blk_drew ?_ | refine blk_alloc ?_ _)); refine blk_far ?_ NB389_409.out _; (with_reducible repeat (first | refine blk_drewN ?_ _ | refine blk_drew ?_ | refine blk_alloc ?_ _)); refine blk_far ?_ NB389_409.out _; (with_reducible repeat (first | refine blk_drewN ?_ _ | refine blk_drew ?_ | refine blk_alloc ?_ _)); refine blk_far ?_ NB389_408.out _; (with_reducible repeat (first | refine blk_drewN ?_ _ | refine blk_drew ?_ | refine blk_alloc ?_ _)); exact BK389.out⟩, ⟨by (with_reducible repeat (first | refine blk_drewN ?_ _ | refine blk_drew ?_ | refine blk_alloc ?_ _)); refine blk_far ?_ NB408_409.out _; (with_reducible repeat (first | refine blk_drewN ?_ _ | refine blk_drew ?_ | refine blk_alloc ?_ _)); refine blk_far ?_ NB408_409.out _; (with_reducible repeat (first | refine blk_drewN ?_ _ | refine blk_drew ?_ | refine blk_alloc ?_ _)); refine blk_far ?_ NB408_409.out _; (with_reducible repeat (first | refine blk_drewN ?_ _ | refine blk_drew ?_ | refine blk_alloc ?_ _)); refine blk_far ?_ NB408_409.out _; (with_reducible repeat (first | refine blk_drewN ?_ _ | refine blk_drew ?_ | refine blk_alloc ?_ _)); refine blk_far ?_ NB408_409.out _; (with_reducible repeat (first | refine blk_drewN ?_ _ | refine blk_drew ?_ | refine blk_alloc ?_ _)); refine blk_far ?_ NB408_409.out _; (with_reducible repeat (first | refine blk_drewN ?_ _ | refine blk_drew ?_ | refine blk_alloc ?_ _)); refine blk_far ?_ NB408_409.out _; (with_reducible repeat (first | refine blk_drewN ?_ _ | refine blk_drew ?_ | refine blk_alloc ?_ _)); refine blk_far ?_ NB408_409.out _; (with_reducible repeat (first | refine blk_drewN ?_ _ | refine blk_drew ?_ | refine blk_alloc ?_ _)); refine blk_put (cs := #[.slice none 0 0]) ?_ 0 _ rfl; (with_reducible repeat (first | refine blk_drewN ?_ _ | refine blk_drew ?_ | refine blk_alloc ?_ _)); exact BK408.out⟩, ⟨by (with_reducible repeat (first | refine blk_drewN ?_ _ | refine blk_drew ?_ | refine blk_alloc ?_ _)); refine blk_put (cs := #[.int .i64 t399, .int .i64 t400, .int .i64 t401, .int .i64 t402, .int .i64 t403, .int .i64 t404, .int .i64 t405, .string (⟨#[]⟩ : ByteArray)]) ?_ 7 _ rfl; (with_reducible repeat (first | refine blk_drewN ?_ _ | refine blk_drew ?_ | refine blk_alloc ?_ _)); refine blk_put (cs := #[.int .i64 t399, .int .i64 t400, .int .i64 t401, .int .i64 t402, .int .i64 t403, .int .i64 t404, .int .i64 0, .string (⟨#[]⟩ : ByteArray)]) ?_ 6 _ rfl; (with_reducible repeat (first | refine blk_drewN ?_ _ | refine blk_drew ?_ | refine blk_alloc ?_ _)); refine blk_put (cs := #[.int .i64 t399, .int .i64 t400, .int .i64 t401, .int .i64 t402, .int .i64 t403, .int .i64 0, .int .i64 0, .string (⟨#[]⟩ : ByteArray)]) ?_ 5 _ rfl; (with_reducible repeat (first | refine blk_drewN ?_ _ | refine blk_drew ?_ | refine blk_alloc ?_ _)); refine blk_put (cs := #[.int .i64 t399, .int .i64 t400, .int .i64 t401, .int .i64 t402, .int .i64 0, .int .i64 0, .int .i64 0, .string (⟨#[]⟩ : ByteArray)]) ?_ 4 _ rfl; (with_reducible repeat (first | refine blk_drewN ?_ _ | refine blk_drew ?_ | refine blk_alloc ?_ _)); refine blk_put (cs := #[.int .i64 t399, .int .i64 t400, .int .i64 t401, .int .i64 0, .int .i64 0, .int .i64 0, .int .i64 0, .string (⟨#[]⟩ : ByteArray)]) ?_ 3 _ rfl; (with_reducible repeat (first | refine blk_drewN ?_ _ | refine blk_drew ?_ | refine blk_alloc ?_ _)); refine blk_put (cs := #[.int .i64 t399, .int .i64 t400, .int .i64 0, .int .i64 0, .int .i64 0, .int .i64 0, .int .i64 0, .string (⟨#[]⟩ : ByteArray)]) ?_ 2 _ rfl; (with_reducible repeat (first | refine blk_drewN ?_ _ | refine blk_drew ?_ | refine blk_alloc ?_ _)); refine blk_put (cs := #[.int .i64 t399, .int .i64 0, .int .i64 0, .int .i64 0, .int .i64 0, .int .i64 0, .int .i64 0, .string (⟨#[]⟩ : ByteArray)]) ?_ 1 _ rfl; (with_reducible repeat (first | refine blk_drewN ?_ _ | refine blk_drew ?_ | refine blk_alloc ?_ _)); refine blk_put (cs := #[.int .i64 0, .int .i64 0, .int .i64 0, .int .i64 0, .int .i64 0, .int .i64 0, .int .i64 0, .string (⟨#[]⟩ : ByteArray)]) ?_ 0 _ rfl; (with_reducible repeat (first | refine blk_drewN ?_ _ | refine blk_drew ?_ | refine blk_alloc ?_ _)); refine blk_far ?_ NB409_408.out _; (with_reducible repeat (first | refine blk_drewN ?_ _ | refine blk_drew ?_ | refine blk_alloc ?_ _)); exact BK409.out⟩, ⟨by repeat (first | (with_reducible first | exact HB.out | apply below_alloc | apply pw_below_drewN | apply below_drew1 | refine below_set ?_ GE389.out | refine below_set ?_ GE408.out | refine below_set ?_ GE409.out) | exact HB.out)⟩⟩
     ·rw [if_neg c29] at H
      have c29b0 : decide (a1 < 0) = false := decide_eq_false c29
      clear c29
      (first | rw [c29b0] | (simp only [i64_w, i32_w]; rw [c29b0]) | skip)
      have H' := Aside0.mk H
      clear H
      have hnb30 := NB389_408.out
      have hnc30 := NB408_389.out
      have hnb31 := NB389_409.out
      have hnc31 := NB409_389.out
      have hcz32_0 : w22.cell? ⟨gb389, 0, none⟩ = some (.slice A0_0 l0_0.length c0_0) := (blk_cell BK389.out 0).trans rfl
      have hfz32_0 := blk_frozen BK389.out 0
      go_wp2
      go_meet
      case rel => exact ⟨_, (decide (a1 ≥ (l0_0.length : Int))), (by first | rfl | (simp; done) | (simp [*]; done)), H', ⟨by have := HJ2.out; first | omega | exact Nat.le_refl _⟩, ⟨by (with_reducible repeat (first | apply Kd.V_alloc | apply Kd.V_drewN | apply Kd.V_drew)); exact Kd.V_mono (Kd.V_far (p := ⟨gb409, 7, none⟩) (Kd.V_far (p := ⟨gb409, 6, none⟩) (Kd.V_far (p := ⟨gb409, 5, none⟩) (Kd.V_far (p := ⟨gb409, 4, none⟩) (Kd.V_far (p := ⟨gb409, 3, none⟩) (Kd.V_far (p := ⟨gb409, 2, none⟩) (Kd.V_far (p := ⟨gb409, 1, none⟩) (Kd.V_far (p := ⟨gb409, 0, none⟩) (Kd.V_far (p := ⟨gb408, 0, none⟩) (Kd.V_mono (Kd.V_mono HO_390000.out (fun k_ hk => (⟨hk, hk.1.2⟩ : _ ∧ k_ ≠ gb408))) (fun k_ hk => (⟨hk, hk.1.2⟩ : _ ∧ k_ ≠ gb409))) (fun _ hk => hk.1.2) (.slice Ao23 t396.length co23)) (fun _ hk => hk.2) (.int .i64 t399)) (fun _ hk => hk.2) (.int .i64 t400)) (fun _ hk => hk.2) (.int .i64 t401)) (fun _ hk => hk.2) (.int .i64 t402)) (fun _ hk => hk.2) (.int .i64 t403)) (fun _ hk => hk.2) (.int .i64 t404)) (fun _ hk => hk.2) (.int .i64 t405)) (fun _ hk => hk.2) (.string t406)) (fun _ hk => ⟨hk.1.1.1.1.1, ⟨hk.1.1.1.1.2, ⟨hk.1.1.1.2, hk.1.1.2⟩⟩⟩)⟩, ⟨by (with_reducible repeat (first | apply Kd.V_alloc | apply Kd.V_drewN | apply Kd.V_drew)); exact Kd.V_mono (Kd.V_far (p := ⟨gb409, 7, none⟩) (Kd.V_far (p := ⟨gb409, 6, none⟩) (Kd.V_far (p := ⟨gb409, 5, none⟩) (Kd.V_far (p := ⟨gb409, 4, none⟩) (Kd.V_far (p := ⟨gb409, 3, none⟩) (Kd.V_far (p := ⟨gb409, 2, none⟩) (Kd.V_far (p := ⟨gb409, 1, none⟩) (Kd.V_far (p := ⟨gb409, 0, none⟩) (Kd.V_far (p := ⟨gb408, 0, none⟩) (Kd.V_mono (Kd.V_mono HO398.out (fun k_ hk => (⟨hk, hk.1.2⟩ : _ ∧ k_ ≠ gb408))) (fun k_ hk => (⟨hk, hk.1.2⟩ : _ ∧ k_ ≠ gb409))) (fun _ hk => hk.1.2) (.slice Ao23 t396.length co23)) (fun _ hk => hk.2) (.int .i64 t399)) (fun _ hk => hk.2) (.int .i64 t400)) (fun _ hk => hk.2) (.int .i64 t401)) (fun _ hk => hk.2) (.int .i64 t402)) (fun _ hk => hk.2) (.int .i64 t403)) (fun _ hk => hk.2) (.int .i64 t404)) (fun _ hk => hk.2) (.int .i64 t405)) (fun _ hk => hk.2) (.string t406)) (fun _ hk => ⟨hk.1.1.1.1.1, ⟨hk.1.1.1.1.2, ⟨hk.1.1.1.2, hk.1.1.2⟩⟩⟩)⟩, ⟨by (with_reducible repeat (first | refine blk_drewN ?_ _ | refine blk_drew ?_ | refine blk_alloc ?_ _)); refine blk_far ?_ NB389_409.out _; (with_reducible repeat (first | refine blk_drewN ?_ _ | refine blk_drew ?_ | refine blk_alloc ?_ _)); refine blk_far ?_ NB389_409.out _; (with_reducible repeat (first | refine blk_drewN ?_ _ | refine blk_drew ?_ | refine blk_alloc ?_ _)); refine blk_far ?_ NB389_409.out _; (with_reducible repeat (first | refine blk_drewN ?_ _ | refine blk_drew ?_ | refine blk_alloc ?_ _)); refine blk_far ?_ NB389_409.out _; (with_reducible repeat (first | refine blk_drewN ?_ _ | refine blk_drew ?_ | refine blk_alloc ?_ _)); refine blk_far ?_ NB389_409.out _; (with_reducible repeat (first | refine blk_drewN ?_ _ | refine blk_drew ?_ | refine blk_alloc ?_ _)); refine blk_far ?_ NB389_409.out _; (with_reducible repeat (first | refine blk_drewN ?_ _ | refine blk_drew ?_ | refine blk_alloc ?_ _)); refine blk_far ?_ NB389_409.out _; (with_reducible repeat (first | refine blk_drewN ?_ _ | refine blk_drew ?_ | refine blk_alloc ?_ _)); refine blk_far ?_ NB389_409.out _; (with_reducible repeat (first | refine blk_drewN ?_ _ | refine blk_drew ?_ | refine blk_alloc ?_ _)); refine blk_far ?_ NB389_408.out _; (with_reducible repeat (first | refine blk_drewN ?_ _ | refine blk_drew ?_ | refine blk_alloc ?_ _)); exact BK389.out⟩, ⟨by (with_reducible repeat (first | refine blk_drewN ?_ _ | refine blk_drew ?_ | refine blk_alloc ?_ _)); refine blk_far ?_ NB408_409.out _; (with_reducible repeat (first | refine blk_drewN ?_ _ | refine blk_drew ?_ | refine blk_alloc ?_ _)); refine blk_far ?_ NB408_409.out _; (with_reducible repeat (first | refine blk_drewN ?_ _ | refine blk_drew ?_ | refine blk_alloc ?_ _)); refine blk_far ?_ NB408_409.out _; (with_reducible repeat (first | refine blk_drewN ?_ _ | refine blk_drew ?_ | refine blk_alloc ?_ _)); refine blk_far ?_ NB408_409.out _; (with_reducible repeat (first | refine blk_drewN ?_ _ | refine blk_drew ?_ | refine blk_alloc ?_ _)); refine blk_far ?_ NB408_409.out _; (with_reducible repeat (first | refine blk_drewN ?_ _ | refine blk_drew ?_ | refine blk_alloc ?_ _)); refine blk_far ?_ NB408_409.out _; (with_reducible repeat (first | refine blk_drewN ?_ _ | refine blk_drew ?_ | refine blk_alloc ?_ _)); refine blk_far ?_ NB408_409.out _; (with_reducible repeat (first | refine blk_drewN ?_ _ | refine blk_drew ?_ | refine blk_alloc ?_ _)); refine blk_far ?_ NB408_409.out _; (with_reducible repeat (first | refine blk_drewN ?_ _ | refine blk_drew ?_ | refine blk_alloc ?_ _)); refine blk_put (cs := #[.slice none 0 0]) ?_ 0 _ rfl; (with_reducible repeat (first | refine blk_drewN ?_ _ | refine blk_drew ?_ | refine blk_alloc ?_ _)); exact BK408.out⟩, ⟨by (with_reducible repeat (first | refine blk_drewN ?_ _ | refine blk_drew ?_ | refine blk_alloc ?_ _)); refine blk_put (cs := #[.int .i64 t399, .int .i64 t400, .int .i64 t401, .int .i64 t402, .int .i64 t403, .int .i64 t404, .int .i64 t405, .string (⟨#[]⟩ : ByteArray)]) ?_ 7 _ rfl; (with_reducible repeat (first | refine blk_drewN ?_ _ | refine blk_drew ?_ | refine blk_alloc ?_ _)); refine blk_put (cs := #[.int .i64 t399, .int .i64 t400, .int .i64 t401, .int .i64 t402, .int .i64 t403, .int .i64 t404, .int .i64 0, .string (⟨#[]⟩ : ByteArray)]) ?_ 6 _ rfl; (with_reducible repeat (first | refine blk_drewN ?_ _ | refine blk_drew ?_ | refine blk_alloc ?_ _)); refine blk_put (cs := #[.int .i64 t399, .int .i64 t400, .int .i64 t401, .int .i64 t402, .int .i64 t403, .int .i64 0, .int .i64 0, .string (⟨#[]⟩ : ByteArray)]) ?_ 5 _ rfl; (with_reducible repeat (first | refine blk_drewN ?_ _ | refine blk_drew ?_ | refine blk_alloc ?_ _)); refine blk_put (cs := #[.int .i64 t399, .int .i64 t400, .int .i64 t401, .int .i64 t402, .int .i64 0, .int .i64 0, .int .i64 0, .string (⟨#[]⟩ : ByteArray)]) ?_ 4 _ rfl; (with_reducible repeat (first | refine blk_drewN ?_ _ | refine blk_drew ?_ | refine blk_alloc ?_ _)); refine blk_put (cs := #[.int .i64 t399, .int .i64 t400, .int .i64 t401, .int .i64 0, .int .i64 0, .int .i64 0, .int .i64 0, .string (⟨#[]⟩ : ByteArray)]) ?_ 3 _ rfl; (with_reducible repeat (first | refine blk_drewN ?_ _ | refine blk_drew ?_ | refine blk_alloc ?_ _)); refine blk_put (cs := #[.int .i64 t399, .int .i64 t400, .int .i64 0, .int .i64 0, .int .i64 0, .int .i64 0, .int .i64 0, .string (⟨#[]⟩ : ByteArray)]) ?_ 2 _ rfl; (with_reducible repeat (first | refine blk_drewN ?_ _ | refine blk_drew ?_ | refine blk_alloc ?_ _)); refine blk_put (cs := #[.int .i64 t399, .int .i64 0, .int .i64 0, .int .i64 0, .int .i64 0, .int .i64 0, .int .i64 0, .string (⟨#[]⟩ : ByteArray)]) ?_ 1 _ rfl; (with_reducible repeat (first | refine blk_drewN ?_ _ | refine blk_drew ?_ | refine blk_alloc ?_ _)); refine blk_put (cs := #[.int .i64 0, .int .i64 0, .int .i64 0, .int .i64 0, .int .i64 0, .int .i64 0, .int .i64 0, .string (⟨#[]⟩ : ByteArray)]) ?_ 0 _ rfl; (with_reducible repeat (first | refine blk_drewN ?_ _ | refine blk_drew ?_ | refine blk_alloc ?_ _)); refine blk_far ?_ NB409_408.out _; (with_reducible repeat (first | refine blk_drewN ?_ _ | refine blk_drew ?_ | refine blk_alloc ?_ _)); exact BK409.out⟩, ⟨by repeat (first | (with_reducible first | exact HB.out | apply below_alloc | apply pw_below_drewN | apply below_drew1 | refine below_set ?_ GE389.out | refine below_set ?_ GE408.out | refine below_set ?_ GE409.out) | exact HB.out)⟩⟩
    case rest =>
     clear HC18
     try clear c1
     try clear c2
     try clear p2
     try clear c3
     try clear c5
     try clear c6
     try clear c8
     try clear c9
     try clear c14
     try clear c17
     try clear c24
     try clear c25
     try clear c27
     try clear c29
     try clear c29b0
     try clear c30
     try clear c31
     try clear hcz10_0
     try clear hcz19_0
     try clear hcz26_0
     try clear hcz28_0
     try clear hcz28_1
     try clear hcz28_2
     try clear hcz28_3
     try clear hcz28_4
     try clear hcz28_5
     try clear hcz28_6
     try clear hcz28_7
     try clear hcz32_0
     try clear hcz7_0
     try clear hfz10_0
     try clear hfz19_0
     try clear hfz26_0
     try clear hfz28_0
     try clear hfz28_1
     try clear hfz28_2
     try clear hfz28_3
     try clear hfz28_4
     try clear hfz28_5
     try clear hfz28_6
     try clear hfz28_7
     try clear hfz32_0
     try clear hfz7_0
     try clear p2
     obtain ⟨kq, x39_17, rfl, HA, HJ17, HO_390000, HO_409000, BK389, BK408, BK409, HB⟩ := hcut
     cases kq with
     | zero => exact absurd HA.out (by simp [haywainlaw22_NetGives.j1])
     | succ kj17 =>
      have H := HA.out
      clear HA
      simp only [haywainlaw22_NetGives.j1] at H
      by_cases c33 : x39_17 = true
      ·subst c33
       have H1 : (if t407 = 4 then ((haywainlaw22_As.f kj17 t396).bind fun t410 => ((haywainlaw22_As.f kj17 l0_0).bind fun t413 => ((haywainref22_Same.f kj17 t410 t413).bind fun t416 => (if t416 = true then ((haywainlaw22_knows.f kj17).bind fun t417 => (some t417)) else (none))))) else (none)) = some r := by rw [if_pos rfl] at H; exact H
       clear H
       have H := H1
       clear H1
       by_cases c34 : t407 = 4
       ·rw [if_pos c34] at H
        have c34b0 : (t407 == 4) = true := beq_iff_eq.mpr c34
        have c34b1 : (t407 != 4) = false := bne_eq_false_iff_eq.mpr c34
        clear c34
        replace H := Option.bind_eq_some_iff.mp H
        obtain ⟨t410, A350, H⟩ := H
        replace H : ((haywainlaw22_As.f kj17 l0_0).bind fun t413 => ((haywainref22_Same.f kj17 t410 t413).bind fun t416 => (if t416 = true then ((haywainlaw22_knows.f kj17).bind fun t417 => (some t417)) else (none)))) = some r := H
        have A35 := Aside0.mk A350
        clear A350
        replace H := Option.bind_eq_some_iff.mp H
        obtain ⟨t413, A360, H⟩ := H
        replace H : ((haywainref22_Same.f kj17 t410 t413).bind fun t416 => (if t416 = true then ((haywainlaw22_knows.f kj17).bind fun t417 => (some t417)) else (none))) = some r := H
        have A36 := Aside0.mk A360
        clear A360
        replace H := Option.bind_eq_some_iff.mp H
        obtain ⟨t416, A370, H⟩ := H
        replace H : (if t416 = true then ((haywainlaw22_knows.f kj17).bind fun t417 => (some t417)) else (none)) = some r := H
        have A37 := Aside0.mk A370
        clear A370
        by_cases c38 : t416 = true
        ·subst c38
         have H1 : ((haywainlaw22_knows.f kj17).bind fun t417 => (some t417)) = some r := by rw [if_pos rfl] at H; exact H
         clear H
         have H := H1
         clear H1
         replace H := Option.bind_eq_some_iff.mp H
         obtain ⟨t417, A390, H⟩ := H
         replace H : (some t417) = some r := H
         have A39 := Aside0.mk A390
         clear A390
         obtain rfl := Option.some.inj H
         try go_wp2
         have n0_ := Aside0.mk (Kd.V_drew HO_390000.out)
         have n1_ := Aside0.mk (Kd.V_drew HO_409000.out)
         have n2_ := Aside0.mk (blk_drew BK389.out)
         have n3_ := Aside0.mk (blk_drew BK408.out)
         have n4_ := Aside0.mk (blk_drew BK409.out)
         have n5_ := Aside0.mk (below_drew1 HB.out)
         clear HO_390000
         clear HO_409000
         clear BK389
         clear BK408
         clear BK409
         clear HB
         have HO_390000 := n0_
         have HO_409000 := n1_
         have BK389 := n2_
         have BK408 := n3_
         have BK409 := n4_
         have HB := n5_
         clear n0_ n1_ n2_ n3_ n4_ n5_
         refine start_ (n := 15) (S := fun w' => w'.cell? ⟨gb408, 0, none⟩ = some (.slice Ao23 t396.length co23) ∧ w'.cell? ⟨gb389, 0, none⟩ = some (.slice A0_0 l0_0.length c0_0)) (ds := []) #[false, false, false, false, false, false, false, false, false, false, false, false, false, false, false] (by kernel_rfl) rfl rfl ⟨(blk_cell BK408.out 0).trans rfl, (blk_cell BK389.out 0).trans rfl⟩ (fun hHeld => ?_); refine with_tabW haywainlaw22_NetGives.tab5 haywainlaw22_NetGives.bits5 (fun HT_ HW_ => ?_)
         generalize wc.drew = w40 at HO_390000 HO_409000 BK389 BK408 BK409 HB hHeld ⊢
         refine pure_ (i := 0) (N := some 40) (v := ?_) (a' := ?_) #[true, false, false, false, false, false, false, false, false, false, false, false, false, false, false] rfl rfl (any_of HT_.out (by kernel_rfl)) (fun _ _ _ h => h) (Or.inl ⟨by rfl, ?_⟩) ?_ ?_
         rotate_left
         ·intro w'
          go_simp
          with_reducible rfl
         rotate_left
         ·simp only [Act.put, List.setIfInBounds_toArray, List.set_cons_zero, List.set_cons_succ, i64_w, i32_w]
          rfl
         refine pure_ (i := 1) (N := some 41) (v := ?_) (a' := ?_) #[true, true, false, false, false, false, false, false, false, false, false, false, false, false, false] rfl rfl (any_of HT_.out (by kernel_rfl)) (fun _ _ _ h => h) (Or.inl ⟨by rfl, ?_⟩) ?_ ?_
         rotate_left
         ·intro w'
          go_simp
          with_reducible rfl
         rotate_left
         ·simp only [Act.put, List.setIfInBounds_toArray, List.set_cons_zero, List.set_cons_succ, i64_w, i32_w]
          rfl
         refine pure_ (i := 2) (N := some 42) (v := ?_) (a' := ?_) #[true, true, true, false, false, false, false, false, false, false, false, false, false, false, false] rfl rfl (any_of HT_.out (by kernel_rfl)) (fun _ _ _ h => h) (Or.inl ⟨by rfl, ?_⟩) ?_ ?_
         rotate_left
         ·intro w'
          go_simp
          with_reducible rfl
         rotate_left
         ·simp only [Act.put, List.setIfInBounds_toArray, List.set_cons_zero, List.set_cons_succ, i64_w, i32_w]
          rfl
         refine pure_ (i := 3) (N := some 43) (v := ?_) (a' := ?_) #[true, true, true, true, false, false, false, false, false, false, false, false, false, false, false] rfl rfl (any_of HT_.out (by kernel_rfl)) (fun _ _ _ h => h) (Or.inl ⟨by rfl, ?_⟩) ?_ ?_
         rotate_left
         ·intro w'
          go_simp
          with_reducible rfl
         rotate_left
         ·simp only [Act.put, List.setIfInBounds_toArray, List.set_cons_zero, List.set_cons_succ, i64_w, i32_w]
          rfl
         refine pure_ (i := 6) (N := some 46) (v := ?_) (a' := ?_) #[true, true, true, true, false, false, true, false, false, false, false, false, false, false, false] rfl rfl (any_of HT_.out (by kernel_rfl)) (fun _ _ _ h => h) (Or.inl ⟨by rfl, ?_⟩) ?_ ?_
         rotate_left
         ·intro w'
          go_simp
          with_reducible rfl
         rotate_left
         ·simp only [Act.put, List.setIfInBounds_toArray, List.set_cons_zero, List.set_cons_succ, i64_w, i32_w]
          rfl
         refine take_ (i := 4) (N := some 44) (v := ?_) (a' := ?_) #[true, true, true, true, true, false, true, false, false, false, false, false, false, false, false] rfl rfl (take_ofW HT_.out HW_.out (by kernel_rfl)) (fun _ _ _ h => h) (Or.inl ⟨by rfl, ?_⟩) hHeld ?_ ?_
         rotate_left
         ·rintro w' ⟨s0, s1⟩
          go_simp
          with_reducible rfl
         rotate_left
         ·simp only [Act.put, List.setIfInBounds_toArray, List.set_cons_zero, List.set_cons_succ, i64_w, i32_w]
          rfl
         refine take_ (i := 7) (N := some 47) (v := ?_) (a' := ?_) #[true, true, true, true, true, false, true, true, false, false, false, false, false, false, false] rfl rfl (take_ofW HT_.out HW_.out (by kernel_rfl)) (fun _ _ _ h => h) (Or.inl ⟨by rfl, ?_⟩) hHeld ?_ ?_
         rotate_left
         ·rintro w' ⟨s0, s1⟩
          go_simp
          with_reducible rfl
         rotate_left
         ·simp only [Act.put, List.setIfInBounds_toArray, List.set_cons_zero, List.set_cons_succ, i64_w, i32_w]
          rfl
         refine one_ (i := 5) (N := some 45) #[true, true, true, true, true, true, true, true, false, false, false, false, false, false, false] rfl rfl (one_of HT_.out (by kernel_rfl)) (by decide) (fun K hK => ?_)
         refine goes_ Try.func12 (by kernel_rfl) rfl #[.slice Ao23 t396.length co23] (by rfl) rfl rfl (by (try simp only [List.map_toArray, List.map_cons, List.map_nil]); first | done | rfl | (simp only [List.length_drop, List.length_take]; rfl)) ?_
         with_reducible refine (haywainlaw22_As.calls kj17 _ _ t396 t410 _ ?side1 ?side2 A35.out).mono ?_
         (case side1 => repeat (first | exact (Kd.V_reads' HO_409000.out).2.2 | (with_reducible refine Kd.C_alloc ?_ _) | (with_reducible refine Kd.C_drewN ?_ _) | (with_reducible refine Kd.C_drew ?_)))
         (case side2 => exact (Kd.V_reads' HO_409000.out).2.1)
         rintro e w41 ⟨v411, rfl, ho0, hb⟩
         refine ⟨_, rfl, ?_⟩
         have n0_ := Aside0.mk (Kd.V_elder' (by (with_reducible repeat (first | apply Kd.V_alloc | apply Kd.V_drewN | apply Kd.V_drew)); exact HO_390000.out) (Kd.R_base ho0) hb)
         have n1_ := Aside0.mk (Kd.V_elder' (by (with_reducible repeat (first | apply Kd.V_alloc | apply Kd.V_drewN | apply Kd.V_drew)); exact HO_409000.out) (Kd.R_base ho0) hb)
         have n2_ := Aside0.mk (Kd.R_lower (Kd.R_newM (M := fun k_ => (w.heap.size ≤ k_)) ho0 (below_size (by repeat (first | (with_reducible first | exact HB.out | apply below_alloc | apply pw_below_drewN | apply below_drew1 | refine below_set ?_ GE389.out | refine below_set ?_ GE408.out | refine below_set ?_ GE409.out) | exact HB.out))) (fun k_ h_ => h_)) (below_size (by repeat (first | (with_reducible first | exact HB.out | apply below_alloc | apply pw_below_drewN | apply below_drew1 | refine below_set ?_ GE389.out | refine below_set ?_ GE408.out | refine below_set ?_ GE409.out) | exact HB.out))))
         have n3_ := Aside0.mk (blk_below (g := gb389) (o := .cells #[.slice A0_0 l0_0.length c0_0] 26 (0, 0)) (by (with_reducible repeat (first | refine blk_drewN ?_ _ | refine blk_drew ?_ | refine blk_alloc ?_ _)); exact BK389.out) hb)
         have n4_ := Aside0.mk (blk_below (g := gb408) (o := .cells #[.slice Ao23 t396.length co23] 26 (0, 0)) (by (with_reducible repeat (first | refine blk_drewN ?_ _ | refine blk_drew ?_ | refine blk_alloc ?_ _)); exact BK408.out) hb)
         have n5_ := Aside0.mk (blk_below (g := gb409) (o := .cells #[.int .i64 t399, .int .i64 t400, .int .i64 t401, .int .i64 t402, .int .i64 t403, .int .i64 t404, .int .i64 t405, .string t406] 23 (0, 0)) (by (with_reducible repeat (first | refine blk_drewN ?_ _ | refine blk_drew ?_ | refine blk_alloc ?_ _)); exact BK409.out) hb)
         have n6_ := Aside0.mk (below_step (by repeat (first | (with_reducible first | exact HB.out | apply below_alloc | apply pw_below_drewN | apply below_drew1 | refine below_set ?_ GE389.out | refine below_set ?_ GE408.out | refine below_set ?_ GE409.out) | exact HB.out)) hb)
         clear HO_390000
         clear HO_409000
         clear BK389
         clear BK408
         clear BK409
         clear HB
         have HO_390000 := n0_
         have HO_409000 := n1_
         have HO412 := n2_
         have BK389 := n3_
         have BK408 := n4_
         have BK409 := n5_
         have HB := n6_
         clear n0_ n1_ n2_ n3_ n4_ n5_ n6_
         (try clear hb)
         (try clear hb2)
         (try clear hk)
         (try clear hi)
         (try clear ho0)
         refine hK.out _ _ ⟨(blk_cell BK408.out 0).trans rfl, (blk_cell BK389.out 0).trans rfl⟩ (fun hHeld => ?_)
         clear hK K
         refine norm_ (a' := ?_) ?_ ?_
         rotate_left
         ·show Act.put _ (some 45) _ = _
          simp only [Act.put, List.setIfInBounds_toArray, List.set_cons_zero, List.set_cons_succ, i64_w, i32_w]
          rfl
         refine one_ (i := 8) (N := some 48) #[true, true, true, true, true, true, true, true, true, false, false, false, false, false, false] rfl rfl (one_of HT_.out (by kernel_rfl)) (by decide) (fun K hK => ?_)
         refine goes_ Try.func12 (by kernel_rfl) rfl #[.slice A0_0 l0_0.length c0_0] (by rfl) rfl rfl (by (try simp only [List.map_toArray, List.map_cons, List.map_nil]); first | done | rfl | (simp only [List.length_drop, List.length_take]; rfl)) ?_
         with_reducible refine (haywainlaw22_As.calls kj17 _ _ l0_0 t413 _ ?side1 ?side2 A36.out).mono ?_
         (case side1 => repeat (first | exact (Kd.V_reads' HO_390000.out).2.2 | (with_reducible refine Kd.C_alloc ?_ _) | (with_reducible refine Kd.C_drewN ?_ _) | (with_reducible refine Kd.C_drew ?_)))
         (case side2 => exact (Kd.V_reads' HO_390000.out).2.1)
         rintro e w42 ⟨v414, rfl, ho0, hb⟩
         refine ⟨_, rfl, ?_⟩
         have n0_ := Aside0.mk (Kd.V_elder' (by (with_reducible repeat (first | apply Kd.V_alloc | apply Kd.V_drewN | apply Kd.V_drew)); exact HO_390000.out) (Kd.R_base ho0) hb)
         have n1_ := Aside0.mk (Kd.V_elder' (by (with_reducible repeat (first | apply Kd.V_alloc | apply Kd.V_drewN | apply Kd.V_drew)); exact HO_409000.out) (Kd.R_base ho0) hb)
         have n2_ := Aside0.mk (Kd.R_elder' (by (with_reducible repeat (first | apply Kd.R_alloc | apply Kd.R_drewN | apply Kd.R_drew)); exact HO412.out) (Kd.R_base ho0) hb)
         have n3_ := Aside0.mk (Kd.R_lower (Kd.R_new' (Kd.R_newM (M := fun k_ => (w.heap.size ≤ k_)) ho0 (below_size (by repeat (first | (with_reducible first | exact HB.out | apply below_alloc | apply pw_below_drewN | apply below_drew1 | refine below_set ?_ GE389.out | refine below_set ?_ GE408.out | refine below_set ?_ GE409.out) | exact HB.out))) (fun k_ h_ => h_)) (Kd.R_lt (by (with_reducible repeat (first | apply Kd.R_alloc | apply Kd.R_drewN | apply Kd.R_drew)); exact HO412.out))) (below_size (by repeat (first | (with_reducible first | exact HB.out | apply below_alloc | apply pw_below_drewN | apply below_drew1 | refine below_set ?_ GE389.out | refine below_set ?_ GE408.out | refine below_set ?_ GE409.out) | exact HB.out))))
         have n4_ := Aside0.mk (blk_below (g := gb389) (o := .cells #[.slice A0_0 l0_0.length c0_0] 26 (0, 0)) (by (with_reducible repeat (first | refine blk_drewN ?_ _ | refine blk_drew ?_ | refine blk_alloc ?_ _)); exact BK389.out) hb)
         have n5_ := Aside0.mk (blk_below (g := gb408) (o := .cells #[.slice Ao23 t396.length co23] 26 (0, 0)) (by (with_reducible repeat (first | refine blk_drewN ?_ _ | refine blk_drew ?_ | refine blk_alloc ?_ _)); exact BK408.out) hb)
         have n6_ := Aside0.mk (blk_below (g := gb409) (o := .cells #[.int .i64 t399, .int .i64 t400, .int .i64 t401, .int .i64 t402, .int .i64 t403, .int .i64 t404, .int .i64 t405, .string t406] 23 (0, 0)) (by (with_reducible repeat (first | refine blk_drewN ?_ _ | refine blk_drew ?_ | refine blk_alloc ?_ _)); exact BK409.out) hb)
         have n7_ := Aside0.mk (below_step (by repeat (first | (with_reducible first | exact HB.out | apply below_alloc | apply pw_below_drewN | apply below_drew1 | refine below_set ?_ GE389.out | refine below_set ?_ GE408.out | refine below_set ?_ GE409.out) | exact HB.out)) hb)
         clear HO_390000
         clear HO_409000
         clear HO412
         clear BK389
         clear BK408
         clear BK409
         clear HB
         have HO_390000 := n0_
         have HO_409000 := n1_
         have HO412 := n2_
         have HO415 := n3_
         have BK389 := n4_
         have BK408 := n5_
         have BK409 := n6_
         have HB := n7_
         clear n0_ n1_ n2_ n3_ n4_ n5_ n6_ n7_
         (try clear hb)
         (try clear hb2)
         (try clear hk)
         (try clear hi)
         (try clear ho0)
         obtain ⟨Ao43, co43, eo43⟩ := Kd.R_slice HO412.out
         (first | subst eo43 | (injection eo43 with f1_ f2_ f3_; have f4_ := f1_.symm; have f5_ := f3_.symm; clear f1_ f2_ f3_; subst f4_; subst f5_))
         obtain ⟨Ao44, co44, eo44⟩ := Kd.R_slice HO415.out
         (first | subst eo44 | (injection eo44 with f1_ f2_ f3_; have f4_ := f1_.symm; have f5_ := f3_.symm; clear f1_ f2_ f3_; subst f4_; subst f5_))
         refine hK.out _ _ ⟨(blk_cell BK408.out 0).trans rfl, (blk_cell BK389.out 0).trans rfl⟩ (fun hHeld => ?_)
         clear hK K
         refine norm_ (a' := ?_) ?_ ?_
         rotate_left
         ·show Act.put _ (some 48) _ = _
          simp only [Act.put, List.setIfInBounds_toArray, List.set_cons_zero, List.set_cons_succ, i64_w, i32_w]
          rfl
         refine one_ (i := 9) (N := some 49) #[true, true, true, true, true, true, true, true, true, true, false, false, false, false, false] rfl rfl (one_of HT_.out (by kernel_rfl)) (by decide) (fun K hK => ?_)
         refine goes_ Try.func19 (by kernel_rfl) rfl #[.slice Ao43 t410.length co43, .slice Ao44 t413.length co44] (by rfl) rfl rfl (by (try simp only [List.map_toArray, List.map_cons, List.map_nil]); first | done | rfl | (simp only [List.length_drop, List.length_take]; rfl)) ?_
         with_reducible refine (haywainref22_Same.calls kj17 _ _ t410 _ _ t413 true _ ?side1 ?side2 ?side3 ?side4 A37.out).mono ?_
         (case side1 => repeat (first | exact (Kd.R_reads' HO412.out).2.2 | (with_reducible refine Kd.C_alloc ?_ _) | (with_reducible refine Kd.C_drewN ?_ _) | (with_reducible refine Kd.C_drew ?_)))
         (case side2 => exact (Kd.R_reads' HO412.out).2.1)
         (case side3 => repeat (first | exact (Kd.R_reads' HO415.out).2.2 | (with_reducible refine Kd.C_alloc ?_ _) | (with_reducible refine Kd.C_drewN ?_ _) | (with_reducible refine Kd.C_drew ?_)))
         (case side4 => exact (Kd.R_reads' HO415.out).2.1)
         rintro e w' ⟨rfl, ⟨nd, rfl⟩⟩
         refine ⟨_, rfl, ?_⟩
         refine hK.out _ _ ⟨(blk_cell BK408.out 0).trans rfl, (blk_cell BK389.out 0).trans rfl⟩ (fun hHeld => ?_)
         clear hK K
         refine norm_ (a' := ?_) ?_ ?_
         rotate_left
         ·show Act.put _ (some 49) _ = _
          simp only [Act.put, List.setIfInBounds_toArray, List.set_cons_zero, List.set_cons_succ, i64_w, i32_w]
          rfl
         refine pure_ (i := 10) (N := some 50) (v := ?_) (a' := ?_) #[true, true, true, true, true, true, true, true, true, true, true, false, false, false, false] rfl rfl (any_of HT_.out (by kernel_rfl)) (fun _ _ _ h => h) (Or.inl ⟨by rfl, ?_⟩) ?_ ?_
         rotate_left
         ·intro w'
          go_simp
          with_reducible rfl
         rotate_left
         ·simp only [Act.put, List.setIfInBounds_toArray, List.set_cons_zero, List.set_cons_succ, i64_w, i32_w]
          rfl
         refine pure_ (i := 11) (N := some 51) (v := ?_) (a' := ?_) #[true, true, true, true, true, true, true, true, true, true, true, true, false, false, false] rfl rfl (any_of HT_.out (by kernel_rfl)) (fun _ _ _ h => h) (Or.inl ⟨by rfl, ?_⟩) ?_ ?_
         rotate_left
         ·intro w'
          go_simp
          with_reducible rfl
         rotate_left
         ·simp only [Act.put, List.setIfInBounds_toArray, List.set_cons_zero, List.set_cons_succ, i64_w, i32_w]
          rfl
         refine one_ (i := 12) (N := some 52) #[true, true, true, true, true, true, true, true, true, true, true, true, true, false, false] rfl rfl (one_of HT_.out (by kernel_rfl)) (by decide) (fun K hK => ?_)
         refine goes_ Try.func9 (by kernel_rfl) rfl #[] (by rfl) rfl rfl (by (try simp only [List.map_toArray, List.map_cons, List.map_nil]); first | done | rfl | (simp only [List.length_drop, List.length_take]; rfl)) ?_
         with_reducible refine (haywainlaw22_knows.calls kj17  t417 _ A39.out).mono ?_
         rintro e w45 ⟨rfl, hb⟩
         refine ⟨_, rfl, ?_⟩
         have n0_ := Aside0.mk (Kd.V_below (by (with_reducible repeat (first | apply Kd.V_alloc | apply Kd.V_drewN | apply Kd.V_drew)); exact HO_390000.out) hb)
         have n1_ := Aside0.mk (Kd.V_below (by (with_reducible repeat (first | apply Kd.V_alloc | apply Kd.V_drewN | apply Kd.V_drew)); exact HO_409000.out) hb)
         have n2_ := Aside0.mk (Kd.R_below (by (with_reducible repeat (first | apply Kd.R_alloc | apply Kd.R_drewN | apply Kd.R_drew)); exact HO412.out) hb)
         have n3_ := Aside0.mk (Kd.R_below (by (with_reducible repeat (first | apply Kd.R_alloc | apply Kd.R_drewN | apply Kd.R_drew)); exact HO415.out) hb)
         have n4_ := Aside0.mk (blk_below (g := gb389) (o := .cells #[.slice A0_0 l0_0.length c0_0] 26 (0, 0)) (by (with_reducible repeat (first | refine blk_drewN ?_ _ | refine blk_drew ?_ | refine blk_alloc ?_ _)); exact BK389.out) hb)
         have n5_ := Aside0.mk (blk_below (g := gb408) (o := .cells #[.slice Ao23 t396.length co23] 26 (0, 0)) (by (with_reducible repeat (first | refine blk_drewN ?_ _ | refine blk_drew ?_ | refine blk_alloc ?_ _)); exact BK408.out) hb)
         have n6_ := Aside0.mk (blk_below (g := gb409) (o := .cells #[.int .i64 t399, .int .i64 t400, .int .i64 t401, .int .i64 t402, .int .i64 t403, .int .i64 t404, .int .i64 t405, .string t406] 23 (0, 0)) (by (with_reducible repeat (first | refine blk_drewN ?_ _ | refine blk_drew ?_ | refine blk_alloc ?_ _)); exact BK409.out) hb)
         have n7_ := Aside0.mk (below_step (by repeat (first | (with_reducible first | exact HB.out | apply below_alloc | apply pw_below_drewN | apply below_drew1 | refine below_set ?_ GE389.out | refine below_set ?_ GE408.out | refine below_set ?_ GE409.out) | exact HB.out)) hb)
         clear HO_390000
         clear HO_409000
         clear HO412
         clear HO415
         clear BK389
         clear BK408
         clear BK409
         clear HB
         have HO_390000 := n0_
         have HO_409000 := n1_
         have HO412 := n2_
         have HO415 := n3_
         have BK389 := n4_
         have BK408 := n5_
         have BK409 := n6_
         have HB := n7_
         clear n0_ n1_ n2_ n3_ n4_ n5_ n6_ n7_
         (try clear hb)
         (try clear hb2)
         (try clear hk)
         (try clear hi)
         refine hK.out _ _ ⟨(blk_cell BK408.out 0).trans rfl, (blk_cell BK389.out 0).trans rfl⟩ (fun hHeld => ?_)
         clear hK K
         refine norm_ (a' := ?_) ?_ ?_
         rotate_left
         ·show Act.put _ (some 52) _ = _
          simp only [Act.put, List.setIfInBounds_toArray, List.set_cons_zero, List.set_cons_succ, i64_w, i32_w]
          rfl
         refine pure_ (i := 13) (N := some 53) (v := ?_) (a' := ?_) #[true, true, true, true, true, true, true, true, true, true, true, true, true, true, false] rfl rfl (any_of HT_.out (by kernel_rfl)) (fun _ _ _ h => h) (Or.inl ⟨by rfl, ?_⟩) ?_ ?_
         rotate_left
         ·intro w'
          go_simp
          with_reducible rfl
         rotate_left
         ·simp only [Act.put, List.setIfInBounds_toArray, List.set_cons_zero, List.set_cons_succ, i64_w, i32_w]
          rfl
         refine pure_ (i := 14) (N := some 4) (v := ?_) (a' := ?_) #[true, true, true, true, true, true, true, true, true, true, true, true, true, true, true] rfl rfl (any_of HT_.out (by kernel_rfl)) (fun _ _ _ h => h) (Or.inl ⟨by rfl, ?_⟩) ?_ ?_
         rotate_left
         ·intro w'
          go_simp
          with_reducible rfl
         rotate_left
         ·simp only [Act.put, List.setIfInBounds_toArray, List.set_cons_zero, List.set_cons_succ, i64_w, i32_w]
          rfl
         refine done_ (done_of HT_.out (by kernel_rfl)) ?_
         try go_wp2
         go_ret
         exact ⟨by first | rfl | (simp [errW_none, errW_some] <;> rfl) | (simp [*, errW_none, errW_some] <;> rfl), by repeat (first | (with_reducible first | exact HB.out | apply below_alloc | apply pw_below_drewN | apply below_drew1 | refine below_set ?_ GE389.out | refine below_set ?_ GE408.out | refine below_set ?_ GE409.out) | exact HB.out)⟩
        ·replace c38 := Bool.eq_false_iff.mpr c38
         subst c38
         have H1 : (none) = some r := by rw [if_neg (show ¬ (false = true) by decide)] at H; exact H
         clear H
         have H := H1
         clear H1
         exact absurd H (by simp)
       ·rw [if_neg c34] at H
        exact absurd H (by simp)
      ·replace c33 := Bool.eq_false_iff.mpr c33
       subst c33
       have H1 : (if t407 = 0 then (if 0 ≤ a1 then (if a1 < (l0_0.length : Int) then (if (!(t399 == ((rd_T23 l0_0 a1).f0)) || (!(t400 == ((rd_T23 l0_0 a1).f1)) || (!(t401 == ((rd_T23 l0_0 a1).f2)) || (!(t402 == ((rd_T23 l0_0 a1).f3)) || (!(t403 == ((rd_T23 l0_0 a1).f4)) || (!(t404 == ((rd_T23 l0_0 a1).f5)) || (!(t405 == ((rd_T23 l0_0 a1).f6)) || (!(t406.toList == (((rd_T23 l0_0 a1).f7).toList)))))))))) = true then (none) else (if (t396.length : Int) = (wrap64 ((l0_0.length : Int) - 1)) then (if a1 ≤ (t396.length : Int) then ((haywainlaw22_As.f kj17 (t396.take (a1 : Int).toNat)).bind fun t424 => (if a1 ≤ (l0_0.length : Int) then ((haywainlaw22_As.f kj17 (l0_0.take (a1 : Int).toNat)).bind fun t432 => ((haywainref22_Same.f kj17 t424 t432).bind fun t435 => (if t435 = true then ((haywainlaw22_As.f kj17 (t396.drop (a1 : Int).toNat)).bind fun t441 => (if 0 ≤ (wrap64 (a1 + 1)) then (if (wrap64 (a1 + 1)) ≤ (l0_0.length : Int) then ((haywainlaw22_As.f kj17 (l0_0.drop ((wrap64 (a1 + 1)) : Int).toNat)).bind fun t449 => ((haywainref22_Same.f kj17 t441 t449).bind fun t452 => (haywainlaw22_NetGives.j2 kj17 (!t452) l0_0))) else (none)) else (none))) else (none)))) else (none))) else (none)) else (none))) else (none)) else (none)) else (none)) = some r := by rw [if_neg (show ¬ (false = true) by decide)] at H; exact H
       clear H
       have H := H1
       clear H1
       have HC46 := Aside0.mk H
       clear H
       go_upto_region 6 with (fail)
       go_cut [103] (fun v103 wc => ∃ (kq : Nat) (x103_45 : Bool), v103 = .bool x103_45 ∧ Aside0 (haywainlaw22_NetGives.j2 kq x103_45 l0_0 = some r) ∧ Aside0 (kq ≤ kj17) ∧ Aside0 (Kd.V k23 23 wc w.heap.size (fun k_ => (P0_0_ k_ ∨ w.heap.size ≤ k_) ∧ k_ ≠ gb389 ∧ k_ ≠ gb408 ∧ k_ ≠ gb409) (.slice A0_0 l0_0.length c0_0) l0_0) ∧ Aside0 (Kd.V k23 23 wc w.heap.size (fun k_ => (P0_0_ k_ ∨ w.heap.size ≤ k_) ∧ k_ ≠ gb389 ∧ k_ ≠ gb408 ∧ k_ ≠ gb409) (.slice Ao23 t396.length co23) t396) ∧ Aside0 (wc.heap[gb389]? = some (.cells #[(.slice A0_0 l0_0.length c0_0)] 26 (0, 0))) ∧ Aside0 (wc.heap[gb408]? = some (.cells #[(.slice Ao23 t396.length co23)] 26 (0, 0))) ∧ Aside0 (wc.heap[gb409]? = some (.cells #[.int .i64 t399, .int .i64 t400, .int .i64 t401, .int .i64 t402, .int .i64 t403, .int .i64 t404, .int .i64 t405, .string t406] 23 (0, 0))) ∧ Aside0 (Below w.heap.size w wc))
       case first =>
        have H := HC46.out
        clear HC46
        by_cases c47 : t407 = 0
        ·rw [if_pos c47] at H
         have c47b0 : (t407 == 0) = true := beq_iff_eq.mpr c47
         have c47b1 : (t407 != 0) = false := bne_eq_false_iff_eq.mpr c47
         clear c47
         (first | rw [c47b0] | (simp only [i64_w, i32_w]; rw [c47b0]) | skip)
         by_cases c48 : 0 ≤ a1
         ·rw [if_pos c48] at H
          have c48b0 : decide (0 ≤ a1) = true := decide_eq_true c48
          clear c48
          by_cases c49 : a1 < (l0_0.length : Int)
          ·rw [if_pos c49] at H
           have c49b0 : decide (a1 < (l0_0.length : Int)) = true := decide_eq_true c49
           clear c49
           by_cases c50 : (!(t399 == ((rd_T23 l0_0 a1).f0)) || (!(t400 == ((rd_T23 l0_0 a1).f1)) || (!(t401 == ((rd_T23 l0_0 a1).f2)) || (!(t402 == ((rd_T23 l0_0 a1).f3)) || (!(t403 == ((rd_T23 l0_0 a1).f4)) || (!(t404 == ((rd_T23 l0_0 a1).f5)) || (!(t405 == ((rd_T23 l0_0 a1).f6)) || (!(t406.toList == (((rd_T23 l0_0 a1).f7).toList)))))))))) = true
           ·rw [if_pos c50] at H
            exact absurd H (by simp)
           ·rw [if_neg c50] at H
            have c50b0 : (!(t399 == ((rd_T23 l0_0 a1).f0)) || (!(t400 == ((rd_T23 l0_0 a1).f1)) || (!(t401 == ((rd_T23 l0_0 a1).f2)) || (!(t402 == ((rd_T23 l0_0 a1).f3)) || (!(t403 == ((rd_T23 l0_0 a1).f4)) || (!(t404 == ((rd_T23 l0_0 a1).f5)) || (!(t405 == ((rd_T23 l0_0 a1).f6)) || (!(t406.toList == (((rd_T23 l0_0 a1).f7).toList)))))))))) = false := by simpa using c50
            clear c50
            by_cases c51 : (t396.length : Int) = (wrap64 ((l0_0.length : Int) - 1))
            ·rw [if_pos c51] at H
             have c51b0 : ((t396.length : Int) == (wrap64 ((l0_0.length : Int) - 1))) = true := beq_iff_eq.mpr c51
             have c51b1 : ((t396.length : Int) != (wrap64 ((l0_0.length : Int) - 1))) = false := bne_eq_false_iff_eq.mpr c51
             clear c51
             have c52b0 := eq_true (of_decide_eq_true (by first | (with_reducible assumption) | assumption) : 0 ≤ a1)
             by_cases c53 : a1 ≤ (t396.length : Int)
             ·rw [if_pos c53] at H
              have c53b0 := eq_true c53
              have c53b1 : decide (a1 ≤ (t396.length : Int)) = true := decide_eq_true c53
              clear c53
              obtain ⟨y419, hy419⟩ : ∃ y_ : List (S23), y_ = (t396.take (a1 : Int).toNat) := ⟨_, rfl⟩
              replace H : ((haywainlaw22_As.f kj17 y419).bind fun t424 => (if a1 ≤ (l0_0.length : Int) then ((haywainlaw22_As.f kj17 (l0_0.take (a1 : Int).toNat)).bind fun t432 => ((haywainref22_Same.f kj17 t424 t432).bind fun t435 => (if t435 = true then ((haywainlaw22_As.f kj17 (t396.drop (a1 : Int).toNat)).bind fun t441 => (if 0 ≤ (wrap64 (a1 + 1)) then (if (wrap64 (a1 + 1)) ≤ (l0_0.length : Int) then ((haywainlaw22_As.f kj17 (l0_0.drop ((wrap64 (a1 + 1)) : Int).toNat)).bind fun t449 => ((haywainref22_Same.f kj17 t441 t449).bind fun t452 => (haywainlaw22_NetGives.j2 kj17 (!t452) l0_0))) else (none)) else (none))) else (none)))) else (none))) = some r := by first | (rw [hy419]; with_reducible exact H) | (have H2_ := (Option.bind_some _ _).symm.trans H; rw [hy419]; with_reducible exact H2_) | (have H2_ := (Option.bind_some _ _).symm.trans H; with_reducible exact H2_) | with_reducible exact H | (rw [hy419]; exact H) | exact H
              have Ny419 := Aside0.mk hy419
              clear hy419
              replace H := Option.bind_eq_some_iff.mp H
              obtain ⟨t424, A540, H⟩ := H
              replace H : (if a1 ≤ (l0_0.length : Int) then ((haywainlaw22_As.f kj17 (l0_0.take (a1 : Int).toNat)).bind fun t432 => ((haywainref22_Same.f kj17 t424 t432).bind fun t435 => (if t435 = true then ((haywainlaw22_As.f kj17 (t396.drop (a1 : Int).toNat)).bind fun t441 => (if 0 ≤ (wrap64 (a1 + 1)) then (if (wrap64 (a1 + 1)) ≤ (l0_0.length : Int) then ((haywainlaw22_As.f kj17 (l0_0.drop ((wrap64 (a1 + 1)) : Int).toNat)).bind fun t449 => ((haywainref22_Same.f kj17 t441 t449).bind fun t452 => (haywainlaw22_NetGives.j2 kj17 (!t452) l0_0))) else (none)) else (none))) else (none)))) else (none)) = some r := H
              have A54 := Aside0.mk A540
              clear A540
              have c55b0 := eq_true (of_decide_eq_true (by first | (with_reducible assumption) | assumption) : 0 ≤ a1)
              by_cases c56 : a1 ≤ (l0_0.length : Int)
              ·rw [if_pos c56] at H
               have c56b0 := eq_true c56
               have c56b1 : decide (a1 ≤ (l0_0.length : Int)) = true := decide_eq_true c56
               clear c56
               obtain ⟨y427, hy427⟩ : ∃ y_ : List (S23), y_ = (l0_0.take (a1 : Int).toNat) := ⟨_, rfl⟩
               replace H : ((haywainlaw22_As.f kj17 y427).bind fun t432 => ((haywainref22_Same.f kj17 t424 t432).bind fun t435 => (if t435 = true then ((haywainlaw22_As.f kj17 (t396.drop (a1 : Int).toNat)).bind fun t441 => (if 0 ≤ (wrap64 (a1 + 1)) then (if (wrap64 (a1 + 1)) ≤ (l0_0.length : Int) then ((haywainlaw22_As.f kj17 (l0_0.drop ((wrap64 (a1 + 1)) : Int).toNat)).bind fun t449 => ((haywainref22_Same.f kj17 t441 t449).bind fun t452 => (haywainlaw22_NetGives.j2 kj17 (!t452) l0_0))) else (none)) else (none))) else (none)))) = some r := by first | (rw [hy427]; with_reducible exact H) | (have H2_ := (Option.bind_some _ _).symm.trans H; rw [hy427]; with_reducible exact H2_) | (have H2_ := (Option.bind_some _ _).symm.trans H; with_reducible exact H2_) | with_reducible exact H | (rw [hy427]; exact H) | exact H
               have Ny427 := Aside0.mk hy427
               clear hy427
               replace H := Option.bind_eq_some_iff.mp H
               obtain ⟨t432, A570, H⟩ := H
               replace H : ((haywainref22_Same.f kj17 t424 t432).bind fun t435 => (if t435 = true then ((haywainlaw22_As.f kj17 (t396.drop (a1 : Int).toNat)).bind fun t441 => (if 0 ≤ (wrap64 (a1 + 1)) then (if (wrap64 (a1 + 1)) ≤ (l0_0.length : Int) then ((haywainlaw22_As.f kj17 (l0_0.drop ((wrap64 (a1 + 1)) : Int).toNat)).bind fun t449 => ((haywainref22_Same.f kj17 t441 t449).bind fun t452 => (haywainlaw22_NetGives.j2 kj17 (!t452) l0_0))) else (none)) else (none))) else (none))) = some r := H
               have A57 := Aside0.mk A570
               clear A570
               replace H := Option.bind_eq_some_iff.mp H
               obtain ⟨t435, A580, H⟩ := H
               replace H : (if t435 = true then ((haywainlaw22_As.f kj17 (t396.drop (a1 : Int).toNat)).bind fun t441 => (if 0 ≤ (wrap64 (a1 + 1)) then (if (wrap64 (a1 + 1)) ≤ (l0_0.length : Int) then ((haywainlaw22_As.f kj17 (l0_0.drop ((wrap64 (a1 + 1)) : Int).toNat)).bind fun t449 => ((haywainref22_Same.f kj17 t441 t449).bind fun t452 => (haywainlaw22_NetGives.j2 kj17 (!t452) l0_0))) else (none)) else (none))) else (none)) = some r := H
               have A58 := Aside0.mk A580
               clear A580
               by_cases c59 : t435 = true
               ·subst c59
                have H1 : ((haywainlaw22_As.f kj17 (t396.drop (a1 : Int).toNat)).bind fun t441 => (if 0 ≤ (wrap64 (a1 + 1)) then (if (wrap64 (a1 + 1)) ≤ (l0_0.length : Int) then ((haywainlaw22_As.f kj17 (l0_0.drop ((wrap64 (a1 + 1)) : Int).toNat)).bind fun t449 => ((haywainref22_Same.f kj17 t441 t449).bind fun t452 => (haywainlaw22_NetGives.j2 kj17 (!t452) l0_0))) else (none)) else (none))) = some r := by rw [if_pos rfl] at H; exact H
                clear H
                have H := H1
                clear H1
                have c60b0 := eq_true (of_decide_eq_true (by first | (with_reducible assumption) | assumption) : 0 ≤ a1)
                have c61b0 := eq_true (of_decide_eq_true (by first | (with_reducible assumption) | assumption) : a1 ≤ (t396.length : Int))
                obtain ⟨y436, hy436⟩ : ∃ y_ : List (S23), y_ = (t396.drop (a1 : Int).toNat) := ⟨_, rfl⟩
                replace H : ((haywainlaw22_As.f kj17 y436).bind fun t441 => (if 0 ≤ (wrap64 (a1 + 1)) then (if (wrap64 (a1 + 1)) ≤ (l0_0.length : Int) then ((haywainlaw22_As.f kj17 (l0_0.drop ((wrap64 (a1 + 1)) : Int).toNat)).bind fun t449 => ((haywainref22_Same.f kj17 t441 t449).bind fun t452 => (haywainlaw22_NetGives.j2 kj17 (!t452) l0_0))) else (none)) else (none))) = some r := by first | (rw [hy436]; with_reducible exact H) | (have H2_ := (Option.bind_some _ _).symm.trans H; rw [hy436]; with_reducible exact H2_) | (have H2_ := (Option.bind_some _ _).symm.trans H; with_reducible exact H2_) | with_reducible exact H | (rw [hy436]; exact H) | exact H
                have Ny436 := Aside0.mk hy436
                clear hy436
                replace H := Option.bind_eq_some_iff.mp H
                obtain ⟨t441, A620, H⟩ := H
                replace H : (if 0 ≤ (wrap64 (a1 + 1)) then (if (wrap64 (a1 + 1)) ≤ (l0_0.length : Int) then ((haywainlaw22_As.f kj17 (l0_0.drop ((wrap64 (a1 + 1)) : Int).toNat)).bind fun t449 => ((haywainref22_Same.f kj17 t441 t449).bind fun t452 => (haywainlaw22_NetGives.j2 kj17 (!t452) l0_0))) else (none)) else (none)) = some r := H
                have A62 := Aside0.mk A620
                clear A620
                obtain ⟨ji63, hji63⟩ : ∃ j_ : Int, (wrap64 (a1 + 1)) = j_ := ⟨_, rfl⟩
                replace H : (if 0 ≤ (ji63) then (if (ji63) ≤ (l0_0.length : Int) then ((haywainlaw22_As.f kj17 (l0_0.drop ((ji63) : Int).toNat)).bind fun t449 => ((haywainref22_Same.f kj17 t441 t449).bind fun t452 => (haywainlaw22_NetGives.j2 kj17 (!t452) l0_0))) else (none)) else (none)) = some r := by first | (rw [hji63] at H; exact H) | (simp only [hji63] at H ⊢; exact H)
                (try rw [hji63] at A54)
                (try rw [hji63] at A57)
                (try rw [hji63] at A58)
                (try rw [hji63] at A62)
                have hji63w : (IntKind.i64.wrap (a1 + 1)) = ji63 := (i64_w _).trans hji63
                by_cases c64 : 0 ≤ (ji63)
                ·rw [if_pos c64] at H
                 have c64b0 := eq_true c64
                 have c64b1 : decide (0 ≤ (ji63)) = true := decide_eq_true c64
                 clear c64
                 by_cases c65 : (ji63) ≤ (l0_0.length : Int)
                 ·rw [if_pos c65] at H
                  have c65b0 := eq_true c65
                  have c65b1 : decide ((ji63) ≤ (l0_0.length : Int)) = true := decide_eq_true c65
                  clear c65
                  obtain ⟨y444, hy444⟩ : ∃ y_ : List (S23), y_ = (l0_0.drop ((ji63) : Int).toNat) := ⟨_, rfl⟩
                  replace H : ((haywainlaw22_As.f kj17 y444).bind fun t449 => ((haywainref22_Same.f kj17 t441 t449).bind fun t452 => (haywainlaw22_NetGives.j2 kj17 (!t452) l0_0))) = some r := by first | (rw [hy444]; with_reducible exact H) | (have H2_ := (Option.bind_some _ _).symm.trans H; rw [hy444]; with_reducible exact H2_) | (have H2_ := (Option.bind_some _ _).symm.trans H; with_reducible exact H2_) | with_reducible exact H | (rw [hy444]; exact H) | exact H
                  have Ny444 := Aside0.mk hy444
                  clear hy444
                  replace H := Option.bind_eq_some_iff.mp H
                  obtain ⟨t449, A660, H⟩ := H
                  replace H : ((haywainref22_Same.f kj17 t441 t449).bind fun t452 => (haywainlaw22_NetGives.j2 kj17 (!t452) l0_0)) = some r := H
                  have A66 := Aside0.mk A660
                  clear A660
                  replace H := Option.bind_eq_some_iff.mp H
                  obtain ⟨t452, A670, H⟩ := H
                  replace H : (haywainlaw22_NetGives.j2 kj17 (!t452) l0_0) = some r := H
                  have A67 := Aside0.mk A670
                  clear A670
                  have H' := Aside0.mk H
                  clear H
                  try go_wp2
                  have n0_ := Aside0.mk (Kd.V_drew HO_390000.out)
                  have n1_ := Aside0.mk (Kd.V_drew HO_409000.out)
                  have n2_ := Aside0.mk (blk_drew BK389.out)
                  have n3_ := Aside0.mk (blk_drew BK408.out)
                  have n4_ := Aside0.mk (blk_drew BK409.out)
                  have n5_ := Aside0.mk (below_drew1 HB.out)
                  clear HO_390000
                  clear HO_409000
                  clear BK389
                  clear BK408
                  clear BK409
                  clear HB
                  have HO_390000 := n0_
                  have HO_409000 := n1_
                  have BK389 := n2_
                  have BK408 := n3_
                  have BK409 := n4_
                  have HB := n5_
                  clear n0_ n1_ n2_ n3_ n4_ n5_
                  have p418 : 0 ≤ (a1 : Int) := of_decide_eq_true (by first | (with_reducible assumption) | assumption)
                  have q418 : a1 < (l0_0.length : Int) := of_decide_eq_true (by first | (with_reducible assumption) | assumption)
                  obtain ⟨ad418, e418, hx418_0, hx418_1, hx418_2, hx418_3, hx418_4, hx418_5, hx418_6, hx418_7⟩ := at_T23 (Kd.V_reads' HO_390000.out).2.2 a1 p418 q418
                  cases e418
                  replace p418 := eq_true p418
                  replace q418 := eq_true q418
                  have q69 : (a1 : Int) ≤ ((t396.length : Int) : Int) := of_decide_eq_true (by first | (with_reducible assumption) | assumption)
                  obtain ⟨i069, hi069, _, hsz69, _⟩ := info_parts info23
                  have hroom69 : t396.length ≤ co23 := (Kd.V_reads' HO_409000.out).2.1
                  have hC69 : Kd.F k23 _ _ Ao23 t396.length t396 := (Kd.V_at (base := w.heap.size) HO_409000.out).2.2
                  have hcut69 := cut_to (P := Try.prog) 24 23 .i64 Try.underlying24 hi069 Ao23 t396.length co23 a1 (of_decide_eq_true (by first | (with_reducible assumption) | assumption)) q69 hroom69
                  have hr69 := Kd.F_take (m := (a1 : Int).toNat) hC69 (by omega)
                  have hy69 : y419.length = (a1 : Int).toNat := (by rw [Ny419.out, List.length_take]; omega)
                  rw [← Ny419.out] at hr69
                  rw [← hy69] at hcut69
                  have HO423 := Aside0.mk (show Kd.V k23 23 _ w.heap.size _ (.slice Ao23 y419.length co23) y419 from Kd.V_mk (by omega) hr69)
                  have HC423 := Aside0.mk (show y419.length ≤ co23 from by omega)
                  clear hr69 hC69 hroom69 hi069 hsz69
                  have KY69 := Aside0.mk hy69
                  clear hy69
                  replace q69 := eq_true q69
                  have q70 : (a1 : Int) ≤ ((l0_0.length : Int) : Int) := of_decide_eq_true (by first | (with_reducible assumption) | assumption)
                  obtain ⟨i070, hi070, _, hsz70, _⟩ := info_parts info23
                  have hroom70 : l0_0.length ≤ c0_0 := (Kd.V_reads' HO_390000.out).2.1
                  have hC70 : Kd.F k23 _ _ (some ad418) l0_0.length l0_0 := (Kd.V_at (base := w.heap.size) HO_390000.out).2.2
                  have hcut70 := cut_to (P := Try.prog) 24 23 .i64 Try.underlying24 hi070 (some ad418) l0_0.length c0_0 a1 (of_decide_eq_true (by first | (with_reducible assumption) | assumption)) q70 hroom70
                  have hr70 := Kd.F_take (m := (a1 : Int).toNat) hC70 (by omega)
                  have hy70 : y427.length = (a1 : Int).toNat := (by rw [Ny427.out, List.length_take]; omega)
                  rw [← Ny427.out] at hr70
                  rw [← hy70] at hcut70
                  have HO431 := Aside0.mk (show Kd.V k23 23 _ w.heap.size _ (.slice (some ad418) y427.length c0_0) y427 from Kd.V_mk (by omega) hr70)
                  have HC431 := Aside0.mk (show y427.length ≤ c0_0 from by omega)
                  clear hr70 hC70 hroom70 hi070 hsz70
                  have KY70 := Aside0.mk hy70
                  clear hy70
                  replace q70 := eq_true q70
                  refine start_ (n := 50) (S := fun w' => w'.cell? ⟨gb409, 0, none⟩ = some (.int .i64 t399) ∧ w'.cell? ⟨gb409, 1, none⟩ = some (.int .i64 t400) ∧ w'.cell? ⟨gb409, 2, none⟩ = some (.int .i64 t401) ∧ w'.cell? ⟨gb409, 3, none⟩ = some (.int .i64 t402) ∧ w'.cell? ⟨gb409, 4, none⟩ = some (.int .i64 t403) ∧ w'.cell? ⟨gb409, 5, none⟩ = some (.int .i64 t404) ∧ w'.cell? ⟨gb409, 6, none⟩ = some (.int .i64 t405) ∧ w'.cell? ⟨gb409, 7, none⟩ = some (.string t406) ∧ w'.cell? ⟨gb389, 0, none⟩ = some (.slice (some ad418) l0_0.length c0_0) ∧ w'.cell? ⟨gb408, 0, none⟩ = some (.slice Ao23 t396.length co23) ∧ w'.cell? (ad418.add ((a1).toNat * 8)) = some (.int .i64 ((rd_T23 l0_0 a1).f0)) ∧ w'.cell? ⟨(ad418.add ((a1).toNat * 8)).block, (ad418.add ((a1).toNat * 8)).off + 1, none⟩ = some (.int .i64 ((rd_T23 l0_0 a1).f1)) ∧ w'.cell? ⟨(ad418.add ((a1).toNat * 8)).block, (ad418.add ((a1).toNat * 8)).off + 2, none⟩ = some (.int .i64 ((rd_T23 l0_0 a1).f2)) ∧ w'.cell? ⟨(ad418.add ((a1).toNat * 8)).block, (ad418.add ((a1).toNat * 8)).off + 3, none⟩ = some (.int .i64 ((rd_T23 l0_0 a1).f3)) ∧ w'.cell? ⟨(ad418.add ((a1).toNat * 8)).block, (ad418.add ((a1).toNat * 8)).off + 4, none⟩ = some (.int .i64 ((rd_T23 l0_0 a1).f4)) ∧ w'.cell? ⟨(ad418.add ((a1).toNat * 8)).block, (ad418.add ((a1).toNat * 8)).off + 5, none⟩ = some (.int .i64 ((rd_T23 l0_0 a1).f5)) ∧ w'.cell? ⟨(ad418.add ((a1).toNat * 8)).block, (ad418.add ((a1).toNat * 8)).off + 6, none⟩ = some (.int .i64 ((rd_T23 l0_0 a1).f6)) ∧ w'.cell? ⟨(ad418.add ((a1).toNat * 8)).block, (ad418.add ((a1).toNat * 8)).off + 7, none⟩ = some (.string ((rd_T23 l0_0 a1).f7))) (ds := []) #[false, false, false, false, false, false, false, false, false, false, false, false, false, false, false, false, false, false, false, false, false, false, false, false, false, false, false, false, false, false, false, false, false, false, false, false, false, false, false, false, false, false, false, false, false, false, false, false, false, false] (by kernel_rfl) rfl rfl ⟨(blk_cell BK409.out 0).trans rfl, (blk_cell BK409.out 1).trans rfl, (blk_cell BK409.out 2).trans rfl, (blk_cell BK409.out 3).trans rfl, (blk_cell BK409.out 4).trans rfl, (blk_cell BK409.out 5).trans rfl, (blk_cell BK409.out 6).trans rfl, (blk_cell BK409.out 7).trans rfl, (blk_cell BK389.out 0).trans rfl, (blk_cell BK408.out 0).trans rfl, hx418_0, hx418_1, hx418_2, hx418_3, hx418_4, hx418_5, hx418_6, hx418_7⟩ (fun hHeld => ?_); refine with_tabW haywainlaw22_NetGives.tab6 haywainlaw22_NetGives.bits6 (fun HT_ HW_ => ?_)
                  generalize wc.drew = w68 at HO_390000 HO_409000 BK389 BK408 BK409 HB HO423 HO431 hx418_0 hx418_1 hx418_2 hx418_3 hx418_4 hx418_5 hx418_6 hx418_7 hHeld ⊢
                  refine pure_ (i := 0) (N := some 54) (v := ?_) (a' := ?_) #[true, false, false, false, false, false, false, false, false, false, false, false, false, false, false, false, false, false, false, false, false, false, false, false, false, false, false, false, false, false, false, false, false, false, false, false, false, false, false, false, false, false, false, false, false, false, false, false, false, false] rfl rfl (any_of HT_.out (by kernel_rfl)) (fun _ _ _ h => h) (Or.inl ⟨by rfl, ?_⟩) ?_ ?_
                  rotate_left
                  ·intro w'
                   go_simp
                   with_reducible rfl
                  rotate_left
                  ·simp only [Act.put, List.setIfInBounds_toArray, List.set_cons_zero, List.set_cons_succ, i64_w, i32_w]
                   rfl
                  refine pure_ (i := 1) (N := some 55) (v := ?_) (a' := ?_) #[true, true, false, false, false, false, false, false, false, false, false, false, false, false, false, false, false, false, false, false, false, false, false, false, false, false, false, false, false, false, false, false, false, false, false, false, false, false, false, false, false, false, false, false, false, false, false, false, false, false] rfl rfl (any_of HT_.out (by kernel_rfl)) (fun _ _ _ h => h) (Or.inl ⟨by rfl, ?_⟩) ?_ ?_
                  rotate_left
                  ·intro w'
                   go_simp
                   with_reducible rfl
                  rotate_left
                  ·simp only [Act.put, List.setIfInBounds_toArray, List.set_cons_zero, List.set_cons_succ, i64_w, i32_w]
                   rfl
                  refine pure_ (i := 2) (N := some 56) (v := ?_) (a' := ?_) #[true, true, true, false, false, false, false, false, false, false, false, false, false, false, false, false, false, false, false, false, false, false, false, false, false, false, false, false, false, false, false, false, false, false, false, false, false, false, false, false, false, false, false, false, false, false, false, false, false, false] rfl rfl (any_of HT_.out (by kernel_rfl)) (fun _ _ _ h => h) (Or.inl ⟨by rfl, ?_⟩) ?_ ?_
                  rotate_left
                  ·intro w'
                   go_simp
                   with_reducible rfl
                  rotate_left
                  ·simp only [Act.put, List.setIfInBounds_toArray, List.set_cons_zero, List.set_cons_succ, i64_w, i32_w]
                   rfl
                  refine pure_ (i := 4) (N := some 58) (v := ?_) (a' := ?_) #[true, true, true, false, true, false, false, false, false, false, false, false, false, false, false, false, false, false, false, false, false, false, false, false, false, false, false, false, false, false, false, false, false, false, false, false, false, false, false, false, false, false, false, false, false, false, false, false, false, false] rfl rfl (any_of HT_.out (by kernel_rfl)) (fun _ _ _ h => h) (Or.inl ⟨by rfl, ?_⟩) ?_ ?_
                  rotate_left
                  ·intro w'
                   go_simp
                   with_reducible rfl
                  rotate_left
                  ·simp only [Act.put, List.setIfInBounds_toArray, List.set_cons_zero, List.set_cons_succ, i64_w, i32_w]
                   rfl
                  refine pure_ (i := 6) (N := some 60) (v := ?_) (a' := ?_) #[true, true, true, false, true, false, true, false, false, false, false, false, false, false, false, false, false, false, false, false, false, false, false, false, false, false, false, false, false, false, false, false, false, false, false, false, false, false, false, false, false, false, false, false, false, false, false, false, false, false] rfl rfl (any_of HT_.out (by kernel_rfl)) (fun _ _ _ h => h) (Or.inl ⟨by rfl, ?_⟩) ?_ ?_
                  rotate_left
                  ·intro w'
                   go_simp
                   with_reducible rfl
                  rotate_left
                  ·simp only [Act.put, List.setIfInBounds_toArray, List.set_cons_zero, List.set_cons_succ, i64_w, i32_w]
                   rfl
                  refine take_ (i := 3) (N := some 57) (v := ?_) (a' := ?_) #[true, true, true, true, true, false, true, false, false, false, false, false, false, false, false, false, false, false, false, false, false, false, false, false, false, false, false, false, false, false, false, false, false, false, false, false, false, false, false, false, false, false, false, false, false, false, false, false, false, false] rfl rfl (take_ofW HT_.out HW_.out (by kernel_rfl)) (fun _ _ _ h => h) (Or.inl ⟨by rfl, ?_⟩) hHeld ?_ ?_
                  rotate_left
                  ·rintro w' ⟨s0, s1, s2, s3, s4, s5, s6, s7, s8, s9, s10, s11, s12, s13, s14, s15, s16, s17⟩
                   go_simp
                   with_reducible rfl
                  rotate_left
                  ·simp only [Act.put, List.setIfInBounds_toArray, List.set_cons_zero, List.set_cons_succ, i64_w, i32_w]
                   rfl
                  refine take_ (i := 5) (N := some 59) (v := ?_) (a' := ?_) #[true, true, true, true, true, true, true, false, false, false, false, false, false, false, false, false, false, false, false, false, false, false, false, false, false, false, false, false, false, false, false, false, false, false, false, false, false, false, false, false, false, false, false, false, false, false, false, false, false, false] rfl rfl (take_ofW HT_.out HW_.out (by kernel_rfl)) (fun _ _ _ h => h) (Or.inl ⟨by rfl, ?_⟩) hHeld ?_ ?_
                  rotate_left
                  ·rintro w' ⟨s0, s1, s2, s3, s4, s5, s6, s7, s8, s9, s10, s11, s12, s13, s14, s15, s16, s17⟩
                   go_simp
                   with_reducible rfl
                  rotate_left
                  ·simp only [Act.put, List.setIfInBounds_toArray, List.set_cons_zero, List.set_cons_succ, i64_w, i32_w]
                   rfl
                  refine pure_ (i := 7) (N := some 61) (v := ?_) (a' := ?_) #[true, true, true, true, true, true, true, true, false, false, false, false, false, false, false, false, false, false, false, false, false, false, false, false, false, false, false, false, false, false, false, false, false, false, false, false, false, false, false, false, false, false, false, false, false, false, false, false, false, false] rfl rfl (any_of HT_.out (by kernel_rfl)) (fun _ _ _ h => h) (Or.inl ⟨by rfl, ?_⟩) ?_ ?_
                  rotate_left
                  ·intro w'
                   go_simp
                   with_reducible rfl
                  rotate_left
                  ·simp only [Act.put, List.setIfInBounds_toArray, List.set_cons_zero, List.set_cons_succ, i64_w, i32_w]
                   rfl
                  refine take_ (i := 8) (N := some 62) (v := ?_) (a' := ?_) #[true, true, true, true, true, true, true, true, true, false, false, false, false, false, false, false, false, false, false, false, false, false, false, false, false, false, false, false, false, false, false, false, false, false, false, false, false, false, false, false, false, false, false, false, false, false, false, false, false, false] rfl rfl (take_ofW HT_.out HW_.out (by kernel_rfl)) (fun _ _ _ h => h) (Or.inl ⟨by rfl, ?_⟩) hHeld ?_ ?_
                  rotate_left
                  ·rintro w' ⟨s0, s1, s2, s3, s4, s5, s6, s7, s8, s9, s10, s11, s12, s13, s14, s15, s16, s17⟩
                   go_simp
                   with_reducible rfl
                  rotate_left
                  ·simp only [Act.put, List.setIfInBounds_toArray, List.set_cons_zero, List.set_cons_succ, i64_w, i32_w]
                   rfl
                  refine pure_ (i := 9) (N := some 63) (v := ?_) (a' := ?_) #[true, true, true, true, true, true, true, true, true, true, false, false, false, false, false, false, false, false, false, false, false, false, false, false, false, false, false, false, false, false, false, false, false, false, false, false, false, false, false, false, false, false, false, false, false, false, false, false, false, false] rfl rfl (any_of HT_.out (by kernel_rfl)) (fun _ _ _ h => h) (Or.inl ⟨by rfl, ?_⟩) ?_ ?_
                  rotate_left
                  ·intro w'
                   go_simp
                   with_reducible rfl
                  rotate_left
                  ·simp only [Act.put, List.setIfInBounds_toArray, List.set_cons_zero, List.set_cons_succ, i64_w, i32_w]
                   rfl
                  refine pure_ (i := 10) (N := some 64) (v := ?_) (a' := ?_) #[true, true, true, true, true, true, true, true, true, true, true, false, false, false, false, false, false, false, false, false, false, false, false, false, false, false, false, false, false, false, false, false, false, false, false, false, false, false, false, false, false, false, false, false, false, false, false, false, false, false] rfl rfl (any_of HT_.out (by kernel_rfl)) (fun _ _ _ h => h) (Or.inl ⟨by rfl, ?_⟩) ?_ ?_
                  rotate_left
                  ·intro w'
                   go_simp
                   with_reducible rfl
                  rotate_left
                  ·simp only [Act.put, List.setIfInBounds_toArray, List.set_cons_zero, List.set_cons_succ, i64_w, i32_w]
                   rfl
                  refine pure_ (i := 11) (N := some 65) (v := ?_) (a' := ?_) #[true, true, true, true, true, true, true, true, true, true, true, true, false, false, false, false, false, false, false, false, false, false, false, false, false, false, false, false, false, false, false, false, false, false, false, false, false, false, false, false, false, false, false, false, false, false, false, false, false, false] rfl rfl (any_of HT_.out (by kernel_rfl)) (fun _ _ _ h => h) (Or.inl ⟨by rfl, ?_⟩) ?_ ?_
                  rotate_left
                  ·intro w'
                   go_simp
                   with_reducible rfl
                  rotate_left
                  ·simp only [Act.put, List.setIfInBounds_toArray, List.set_cons_zero, List.set_cons_succ, i64_w, i32_w]
                   rfl
                  refine pure_ (i := 12) (N := some 66) (v := ?_) (a' := ?_) #[true, true, true, true, true, true, true, true, true, true, true, true, true, false, false, false, false, false, false, false, false, false, false, false, false, false, false, false, false, false, false, false, false, false, false, false, false, false, false, false, false, false, false, false, false, false, false, false, false, false] rfl rfl (any_of HT_.out (by kernel_rfl)) (fun _ _ _ h => h) (Or.inl ⟨by rfl, ?_⟩) ?_ ?_
                  rotate_left
                  ·intro w'
                   go_simp
                   with_reducible rfl
                  rotate_left
                  ·simp only [Act.put, List.setIfInBounds_toArray, List.set_cons_zero, List.set_cons_succ, i64_w, i32_w]
                   rfl
                  refine pure_ (i := 15) (N := some 69) (v := ?_) (a' := ?_) #[true, true, true, true, true, true, true, true, true, true, true, true, true, false, false, true, false, false, false, false, false, false, false, false, false, false, false, false, false, false, false, false, false, false, false, false, false, false, false, false, false, false, false, false, false, false, false, false, false, false] rfl rfl (any_of HT_.out (by kernel_rfl)) (fun _ _ _ h => h) (Or.inl ⟨by rfl, ?_⟩) ?_ ?_
                  rotate_left
                  ·intro w'
                   go_simp
                   with_reducible rfl
                  rotate_left
                  ·simp only [Act.put, List.setIfInBounds_toArray, List.set_cons_zero, List.set_cons_succ, i64_w, i32_w]
                   rfl
                  refine take_ (i := 13) (N := some 67) (v := ?_) (a' := ?_) #[true, true, true, true, true, true, true, true, true, true, true, true, true, true, false, true, false, false, false, false, false, false, false, false, false, false, false, false, false, false, false, false, false, false, false, false, false, false, false, false, false, false, false, false, false, false, false, false, false, false] rfl rfl (take_ofW HT_.out HW_.out (by kernel_rfl)) (fun _ _ _ h => h) (Or.inl ⟨by rfl, ?_⟩) hHeld ?_ ?_
                  rotate_left
                  ·rintro w' ⟨s0, s1, s2, s3, s4, s5, s6, s7, s8, s9, s10, s11, s12, s13, s14, s15, s16, s17⟩
                   go_simp
                   with_reducible rfl
                  rotate_left
                  ·simp only [Act.put, List.setIfInBounds_toArray, List.set_cons_zero, List.set_cons_succ, i64_w, i32_w]
                   rfl
                  refine pure_ (i := 14) (N := some 68) (v := ?_) (a' := ?_) #[true, true, true, true, true, true, true, true, true, true, true, true, true, true, true, true, false, false, false, false, false, false, false, false, false, false, false, false, false, false, false, false, false, false, false, false, false, false, false, false, false, false, false, false, false, false, false, false, false, false] rfl rfl (any_of HT_.out (by kernel_rfl)) (fun _ _ _ h => h) (Or.inl ⟨by rfl, ?_⟩) ?_ ?_
                  rotate_left
                  ·intro w'
                   go_simp
                   with_reducible rfl
                  rotate_left
                  ·simp only [Act.put, List.setIfInBounds_toArray, List.set_cons_zero, List.set_cons_succ, i64_w, i32_w]
                   rfl
                  refine take_ (i := 16) (N := some 70) (v := ?_) (a' := ?_) #[true, true, true, true, true, true, true, true, true, true, true, true, true, true, true, true, true, false, false, false, false, false, false, false, false, false, false, false, false, false, false, false, false, false, false, false, false, false, false, false, false, false, false, false, false, false, false, false, false, false] rfl rfl (take_ofW HT_.out HW_.out (by kernel_rfl)) (fun _ _ _ h => h) (Or.inl ⟨by rfl, ?_⟩) hHeld ?_ ?_
                  rotate_left
                  ·rintro w' ⟨s0, s1, s2, s3, s4, s5, s6, s7, s8, s9, s10, s11, s12, s13, s14, s15, s16, s17⟩
                   go_simp
                   with_reducible rfl
                  rotate_left
                  ·simp only [Act.put, List.setIfInBounds_toArray, List.set_cons_zero, List.set_cons_succ, i64_w, i32_w]
                   rfl
                  refine pure_ (i := 17) (N := some 71) (v := ?_) (a' := ?_) #[true, true, true, true, true, true, true, true, true, true, true, true, true, true, true, true, true, true, false, false, false, false, false, false, false, false, false, false, false, false, false, false, false, false, false, false, false, false, false, false, false, false, false, false, false, false, false, false, false, false] rfl rfl (any_of HT_.out (by kernel_rfl)) (fun _ _ _ h => h) (Or.inl ⟨by rfl, ?_⟩) ?_ ?_
                  rotate_left
                  ·intro w'
                   go_simp
                   with_reducible rfl
                  rotate_left
                  ·simp only [Act.put, List.setIfInBounds_toArray, List.set_cons_zero, List.set_cons_succ, i64_w, i32_w]
                   rfl
                  refine pure_ (i := 18) (N := some 72) (v := ?_) (a' := ?_) #[true, true, true, true, true, true, true, true, true, true, true, true, true, true, true, true, true, true, true, false, false, false, false, false, false, false, false, false, false, false, false, false, false, false, false, false, false, false, false, false, false, false, false, false, false, false, false, false, false, false] rfl rfl (any_of HT_.out (by kernel_rfl)) (fun _ _ _ h => h) (Or.inl ⟨by rfl, ?_⟩) ?_ ?_
                  rotate_left
                  ·intro w'
                   go_simp
                   with_reducible rfl
                  rotate_left
                  ·simp only [Act.put, List.setIfInBounds_toArray, List.set_cons_zero, List.set_cons_succ, i64_w, i32_w]
                   rfl
                  refine pure_ (i := 19) (N := some 73) (v := ?_) (a' := ?_) #[true, true, true, true, true, true, true, true, true, true, true, true, true, true, true, true, true, true, true, true, false, false, false, false, false, false, false, false, false, false, false, false, false, false, false, false, false, false, false, false, false, false, false, false, false, false, false, false, false, false] rfl rfl (any_of HT_.out (by kernel_rfl)) (fun _ _ _ h => h) (Or.inl ⟨by rfl, ?_⟩) ?_ ?_
                  rotate_left
                  ·intro w'
                   go_simp
                   with_reducible rfl
                  rotate_left
                  ·simp only [Act.put, List.setIfInBounds_toArray, List.set_cons_zero, List.set_cons_succ, i64_w, i32_w]
                   rfl
                  refine pure_ (i := 20) (N := some 74) (v := ?_) (a' := ?_) #[true, true, true, true, true, true, true, true, true, true, true, true, true, true, true, true, true, true, true, true, true, false, false, false, false, false, false, false, false, false, false, false, false, false, false, false, false, false, false, false, false, false, false, false, false, false, false, false, false, false] rfl rfl (any_of HT_.out (by kernel_rfl)) (fun _ _ _ h => h) (Or.inl ⟨by rfl, ?_⟩) ?_ ?_
                  rotate_left
                  ·intro w'
                   go_simp
                   with_reducible rfl
                  rotate_left
                  ·simp only [Act.put, List.setIfInBounds_toArray, List.set_cons_zero, List.set_cons_succ, i64_w, i32_w]
                   rfl
                  refine pure_ (i := 21) (N := some 75) (v := ?_) (a' := ?_) #[true, true, true, true, true, true, true, true, true, true, true, true, true, true, true, true, true, true, true, true, true, true, false, false, false, false, false, false, false, false, false, false, false, false, false, false, false, false, false, false, false, false, false, false, false, false, false, false, false, false] rfl rfl (any_of HT_.out (by kernel_rfl)) (fun _ _ _ h => h) (Or.inl ⟨by rfl, ?_⟩) ?_ ?_
                  rotate_left
                  ·intro w'
                   go_simp
                   with_reducible rfl
                  rotate_left
                  ·simp only [Act.put, List.setIfInBounds_toArray, List.set_cons_zero, List.set_cons_succ, i64_w, i32_w]
                   rfl
                  refine pure_ (i := 22) (N := some 76) (v := ?_) (a' := ?_) #[true, true, true, true, true, true, true, true, true, true, true, true, true, true, true, true, true, true, true, true, true, true, true, false, false, false, false, false, false, false, false, false, false, false, false, false, false, false, false, false, false, false, false, false, false, false, false, false, false, false] rfl rfl (any_of HT_.out (by kernel_rfl)) (fun _ _ _ h => h) (Or.inl ⟨by rfl, ?_⟩) ?_ ?_
                  rotate_left
                  ·intro w'
                   go_simp
                   with_reducible rfl
                  rotate_left
                  ·simp only [Act.put, List.setIfInBounds_toArray, List.set_cons_zero, List.set_cons_succ, i64_w, i32_w]
                   rfl
                  refine pure_ (i := 24) (N := some 78) (v := ?_) (a' := ?_) #[true, true, true, true, true, true, true, true, true, true, true, true, true, true, true, true, true, true, true, true, true, true, true, false, true, false, false, false, false, false, false, false, false, false, false, false, false, false, false, false, false, false, false, false, false, false, false, false, false, false] rfl rfl (any_of HT_.out (by kernel_rfl)) (fun _ _ _ h => h) (Or.inl ⟨by rfl, ?_⟩) ?_ ?_
                  rotate_left
                  ·intro w'
                   go_simp
                   with_reducible rfl
                  rotate_left
                  ·simp only [Act.put, List.setIfInBounds_toArray, List.set_cons_zero, List.set_cons_succ, i64_w, i32_w]
                   rfl
                  refine pure_ (i := 27) (N := some 81) (v := ?_) (a' := ?_) #[true, true, true, true, true, true, true, true, true, true, true, true, true, true, true, true, true, true, true, true, true, true, true, false, true, false, false, true, false, false, false, false, false, false, false, false, false, false, false, false, false, false, false, false, false, false, false, false, false, false] rfl rfl (any_of HT_.out (by kernel_rfl)) (fun _ _ _ h => h) (Or.inl ⟨by rfl, ?_⟩) ?_ ?_
                  rotate_left
                  ·intro w'
                   go_simp
                   with_reducible rfl
                  rotate_left
                  ·simp only [Act.put, List.setIfInBounds_toArray, List.set_cons_zero, List.set_cons_succ, i64_w, i32_w]
                   rfl
                  refine pure_ (i := 29) (N := some 83) (v := ?_) (a' := ?_) #[true, true, true, true, true, true, true, true, true, true, true, true, true, true, true, true, true, true, true, true, true, true, true, false, true, false, false, true, false, true, false, false, false, false, false, false, false, false, false, false, false, false, false, false, false, false, false, false, false, false] rfl rfl (any_of HT_.out (by kernel_rfl)) (fun _ _ _ h => h) (Or.inl ⟨by rfl, ?_⟩) ?_ ?_
                  rotate_left
                  ·intro w'
                   go_simp
                   with_reducible rfl
                  rotate_left
                  ·simp only [Act.put, List.setIfInBounds_toArray, List.set_cons_zero, List.set_cons_succ, i64_w, i32_w]
                   rfl
                  refine take_ (i := 23) (N := some 77) (v := ?_) (a' := ?_) #[true, true, true, true, true, true, true, true, true, true, true, true, true, true, true, true, true, true, true, true, true, true, true, true, true, false, false, true, false, true, false, false, false, false, false, false, false, false, false, false, false, false, false, false, false, false, false, false, false, false] rfl rfl (take_ofW HT_.out HW_.out (by kernel_rfl)) (fun _ _ _ h => h) (Or.inl ⟨by rfl, ?_⟩) hHeld ?_ ?_
                  rotate_left
                  ·rintro w' ⟨s0, s1, s2, s3, s4, s5, s6, s7, s8, s9, s10, s11, s12, s13, s14, s15, s16, s17⟩
                   go_simp
                   with_reducible rfl
                  rotate_left
                  ·simp only [Act.put, List.setIfInBounds_toArray, List.set_cons_zero, List.set_cons_succ, i64_w, i32_w]
                   rfl
                  refine pure_ (i := 25) (N := some 79) (v := ?_) (a' := ?_) #[true, true, true, true, true, true, true, true, true, true, true, true, true, true, true, true, true, true, true, true, true, true, true, true, true, true, false, true, false, true, false, false, false, false, false, false, false, false, false, false, false, false, false, false, false, false, false, false, false, false] rfl rfl (any_of HT_.out (by kernel_rfl)) (fun _ _ _ h => h) (Or.inl ⟨by rfl, ?_⟩) ?_ ?_
                  rotate_left
                  ·intro w'
                   go_simp
                   with_reducible rfl
                  rotate_left
                  ·simp only [Act.put, List.setIfInBounds_toArray, List.set_cons_zero, List.set_cons_succ, i64_w, i32_w]
                   rfl
                  refine take_ (i := 28) (N := some 82) (v := ?_) (a' := ?_) #[true, true, true, true, true, true, true, true, true, true, true, true, true, true, true, true, true, true, true, true, true, true, true, true, true, true, false, true, true, true, false, false, false, false, false, false, false, false, false, false, false, false, false, false, false, false, false, false, false, false] rfl rfl (take_ofW HT_.out HW_.out (by kernel_rfl)) (fun _ _ _ h => h) (Or.inl ⟨by rfl, ?_⟩) hHeld ?_ ?_
                  rotate_left
                  ·rintro w' ⟨s0, s1, s2, s3, s4, s5, s6, s7, s8, s9, s10, s11, s12, s13, s14, s15, s16, s17⟩
                   go_simp
                   with_reducible rfl
                  rotate_left
                  ·simp only [Act.put, List.setIfInBounds_toArray, List.set_cons_zero, List.set_cons_succ, i64_w, i32_w]
                   rfl
                  refine pure_ (i := 30) (N := some 84) (v := ?_) (a' := ?_) #[true, true, true, true, true, true, true, true, true, true, true, true, true, true, true, true, true, true, true, true, true, true, true, true, true, true, false, true, true, true, true, false, false, false, false, false, false, false, false, false, false, false, false, false, false, false, false, false, false, false] rfl rfl (any_of HT_.out (by kernel_rfl)) (fun _ _ _ h => h) (Or.inl ⟨by rfl, ?_⟩) ?_ ?_
                  rotate_left
                  ·intro w'
                   go_simp
                   with_reducible rfl
                  rotate_left
                  ·simp only [Act.put, List.setIfInBounds_toArray, List.set_cons_zero, List.set_cons_succ, i64_w, i32_w]
                   rfl
                  refine one_ (i := 26) (N := some 80) #[true, true, true, true, true, true, true, true, true, true, true, true, true, true, true, true, true, true, true, true, true, true, true, true, true, true, true, true, true, true, true, false, false, false, false, false, false, false, false, false, false, false, false, false, false, false, false, false, false, false] rfl rfl (one_of HT_.out (by kernel_rfl)) (by decide) (fun K hK => ?_)
                  refine goes_ Try.func12 (by kernel_rfl) rfl #[.slice Ao23 y419.length co23] (by rfl) rfl rfl (by (try simp only [List.map_toArray, List.map_cons, List.map_nil]); first | done | rfl | (simp only [List.length_drop, List.length_take]; rfl)) ?_
                  with_reducible refine (haywainlaw22_As.calls kj17 _ _ y419 t424 _ ?side1 ?side2 A54.out).mono ?_
                  (case side1 => repeat (first | exact (Kd.V_reads' HO423.out).2.2 | (with_reducible refine Kd.C_alloc ?_ _) | (with_reducible refine Kd.C_drewN ?_ _) | (with_reducible refine Kd.C_drew ?_)))
                  (case side2 => exact (Kd.V_reads' HO423.out).2.1)
                  rintro e w71 ⟨v425, rfl, ho0, hb⟩
                  have HS10_ := (hb.cell (World.block_lt_of_cell? _ _ (hHeld.2.2.2.2.2.2.2.2.2.2.1))).trans (hHeld.2.2.2.2.2.2.2.2.2.2.1)
                  have HS11_ := (hb.cell (World.block_lt_of_cell? _ _ (hHeld.2.2.2.2.2.2.2.2.2.2.2.1))).trans (hHeld.2.2.2.2.2.2.2.2.2.2.2.1)
                  have HS12_ := (hb.cell (World.block_lt_of_cell? _ _ (hHeld.2.2.2.2.2.2.2.2.2.2.2.2.1))).trans (hHeld.2.2.2.2.2.2.2.2.2.2.2.2.1)
                  have HS13_ := (hb.cell (World.block_lt_of_cell? _ _ (hHeld.2.2.2.2.2.2.2.2.2.2.2.2.2.1))).trans (hHeld.2.2.2.2.2.2.2.2.2.2.2.2.2.1)
                  have HS14_ := (hb.cell (World.block_lt_of_cell? _ _ (hHeld.2.2.2.2.2.2.2.2.2.2.2.2.2.2.1))).trans (hHeld.2.2.2.2.2.2.2.2.2.2.2.2.2.2.1)
                  have HS15_ := (hb.cell (World.block_lt_of_cell? _ _ (hHeld.2.2.2.2.2.2.2.2.2.2.2.2.2.2.2.1))).trans (hHeld.2.2.2.2.2.2.2.2.2.2.2.2.2.2.2.1)
                  have HS16_ := (hb.cell (World.block_lt_of_cell? _ _ (hHeld.2.2.2.2.2.2.2.2.2.2.2.2.2.2.2.2.1))).trans (hHeld.2.2.2.2.2.2.2.2.2.2.2.2.2.2.2.2.1)
                  have HS17_ := (hb.cell (World.block_lt_of_cell? _ _ (hHeld.2.2.2.2.2.2.2.2.2.2.2.2.2.2.2.2.2))).trans (hHeld.2.2.2.2.2.2.2.2.2.2.2.2.2.2.2.2.2)
                  refine ⟨_, rfl, ?_⟩
                  have n0_ := Aside0.mk (Kd.V_elder' (by (with_reducible repeat (first | apply Kd.V_alloc | apply Kd.V_drewN | apply Kd.V_drew)); exact HO_390000.out) (Kd.R_base ho0) hb)
                  have n1_ := Aside0.mk (Kd.V_elder' (by (with_reducible repeat (first | apply Kd.V_alloc | apply Kd.V_drewN | apply Kd.V_drew)); exact HO_409000.out) (Kd.R_base ho0) hb)
                  have n2_ := Aside0.mk (Kd.V_elder' (by (with_reducible repeat (first | apply Kd.V_alloc | apply Kd.V_drewN | apply Kd.V_drew)); exact HO423.out) (Kd.R_base ho0) hb)
                  have n3_ := Aside0.mk (Kd.V_elder' (by (with_reducible repeat (first | apply Kd.V_alloc | apply Kd.V_drewN | apply Kd.V_drew)); exact HO431.out) (Kd.R_base ho0) hb)
                  have n4_ := Aside0.mk (Kd.R_lower (Kd.R_newM (M := fun k_ => (w.heap.size ≤ k_)) ho0 (below_size (by repeat (first | (with_reducible first | exact HB.out | apply below_alloc | apply pw_below_drewN | apply below_drew1 | refine below_set ?_ GE389.out | refine below_set ?_ GE408.out | refine below_set ?_ GE409.out) | exact HB.out))) (fun k_ h_ => h_)) (below_size (by repeat (first | (with_reducible first | exact HB.out | apply below_alloc | apply pw_below_drewN | apply below_drew1 | refine below_set ?_ GE389.out | refine below_set ?_ GE408.out | refine below_set ?_ GE409.out) | exact HB.out))))
                  have n5_ := Aside0.mk (blk_below (g := gb389) (o := .cells #[.slice (some ad418) l0_0.length c0_0] 26 (0, 0)) (by (with_reducible repeat (first | refine blk_drewN ?_ _ | refine blk_drew ?_ | refine blk_alloc ?_ _)); exact BK389.out) hb)
                  have n6_ := Aside0.mk (blk_below (g := gb408) (o := .cells #[.slice Ao23 t396.length co23] 26 (0, 0)) (by (with_reducible repeat (first | refine blk_drewN ?_ _ | refine blk_drew ?_ | refine blk_alloc ?_ _)); exact BK408.out) hb)
                  have n7_ := Aside0.mk (blk_below (g := gb409) (o := .cells #[.int .i64 t399, .int .i64 t400, .int .i64 t401, .int .i64 t402, .int .i64 t403, .int .i64 t404, .int .i64 t405, .string t406] 23 (0, 0)) (by (with_reducible repeat (first | refine blk_drewN ?_ _ | refine blk_drew ?_ | refine blk_alloc ?_ _)); exact BK409.out) hb)
                  have n8_ := Aside0.mk (below_step (by repeat (first | (with_reducible first | exact HB.out | apply below_alloc | apply pw_below_drewN | apply below_drew1 | refine below_set ?_ GE389.out | refine below_set ?_ GE408.out | refine below_set ?_ GE409.out) | exact HB.out)) hb)
                  clear HO_390000
                  clear HO_409000
                  clear HO423
                  clear HO431
                  clear BK389
                  clear BK408
                  clear BK409
                  clear HB
                  have HO_390000 := n0_
                  have HO_409000 := n1_
                  have HO423 := n2_
                  have HO431 := n3_
                  have HO426 := n4_
                  have BK389 := n5_
                  have BK408 := n6_
                  have BK409 := n7_
                  have HB := n8_
                  clear n0_ n1_ n2_ n3_ n4_ n5_ n6_ n7_ n8_
                  (try clear hb)
                  (try clear hb2)
                  (try clear hk)
                  (try clear hi)
                  (try clear ho0)
                  refine hK.out _ _ ⟨(blk_cell BK409.out 0).trans rfl, (blk_cell BK409.out 1).trans rfl, (blk_cell BK409.out 2).trans rfl, (blk_cell BK409.out 3).trans rfl, (blk_cell BK409.out 4).trans rfl, (blk_cell BK409.out 5).trans rfl, (blk_cell BK409.out 6).trans rfl, (blk_cell BK409.out 7).trans rfl, (blk_cell BK389.out 0).trans rfl, (blk_cell BK408.out 0).trans rfl, HS10_, HS11_, HS12_, HS13_, HS14_, HS15_, HS16_, HS17_⟩ (fun hHeld => ?_)
                  clear hK K
                  refine norm_ (a' := ?_) ?_ ?_
                  rotate_left
                  ·show Act.put _ (some 80) _ = _
                   simp only [Act.put, List.setIfInBounds_toArray, List.set_cons_zero, List.set_cons_succ, i64_w, i32_w]
                   rfl
                  refine one_ (i := 31) (N := some 85) #[true, true, true, true, true, true, true, true, true, true, true, true, true, true, true, true, true, true, true, true, true, true, true, true, true, true, true, true, true, true, true, true, false, false, false, false, false, false, false, false, false, false, false, false, false, false, false, false, false, false] rfl rfl (one_of HT_.out (by kernel_rfl)) (by decide) (fun K hK => ?_)
                  refine goes_ Try.func12 (by kernel_rfl) rfl #[.slice (some ad418) y427.length c0_0] (by rfl) rfl rfl (by (try simp only [List.map_toArray, List.map_cons, List.map_nil]); first | done | rfl | (simp only [List.length_drop, List.length_take]; rfl)) ?_
                  with_reducible refine (haywainlaw22_As.calls kj17 _ _ y427 t432 _ ?side1 ?side2 A57.out).mono ?_
                  (case side1 => repeat (first | exact (Kd.V_reads' HO431.out).2.2 | (with_reducible refine Kd.C_alloc ?_ _) | (with_reducible refine Kd.C_drewN ?_ _) | (with_reducible refine Kd.C_drew ?_)))
                  (case side2 => exact (Kd.V_reads' HO431.out).2.1)
                  rintro e w72 ⟨v433, rfl, ho0, hb⟩
                  have HS10_ := (hb.cell (World.block_lt_of_cell? _ _ (hHeld.2.2.2.2.2.2.2.2.2.2.1))).trans (hHeld.2.2.2.2.2.2.2.2.2.2.1)
                  have HS11_ := (hb.cell (World.block_lt_of_cell? _ _ (hHeld.2.2.2.2.2.2.2.2.2.2.2.1))).trans (hHeld.2.2.2.2.2.2.2.2.2.2.2.1)
                  have HS12_ := (hb.cell (World.block_lt_of_cell? _ _ (hHeld.2.2.2.2.2.2.2.2.2.2.2.2.1))).trans (hHeld.2.2.2.2.2.2.2.2.2.2.2.2.1)
                  have HS13_ := (hb.cell (World.block_lt_of_cell? _ _ (hHeld.2.2.2.2.2.2.2.2.2.2.2.2.2.1))).trans (hHeld.2.2.2.2.2.2.2.2.2.2.2.2.2.1)
                  have HS14_ := (hb.cell (World.block_lt_of_cell? _ _ (hHeld.2.2.2.2.2.2.2.2.2.2.2.2.2.2.1))).trans (hHeld.2.2.2.2.2.2.2.2.2.2.2.2.2.2.1)
                  have HS15_ := (hb.cell (World.block_lt_of_cell? _ _ (hHeld.2.2.2.2.2.2.2.2.2.2.2.2.2.2.2.1))).trans (hHeld.2.2.2.2.2.2.2.2.2.2.2.2.2.2.2.1)
                  have HS16_ := (hb.cell (World.block_lt_of_cell? _ _ (hHeld.2.2.2.2.2.2.2.2.2.2.2.2.2.2.2.2.1))).trans (hHeld.2.2.2.2.2.2.2.2.2.2.2.2.2.2.2.2.1)
                  have HS17_ := (hb.cell (World.block_lt_of_cell? _ _ (hHeld.2.2.2.2.2.2.2.2.2.2.2.2.2.2.2.2.2))).trans (hHeld.2.2.2.2.2.2.2.2.2.2.2.2.2.2.2.2.2)
                  refine ⟨_, rfl, ?_⟩
                  have n0_ := Aside0.mk (Kd.V_elder' (by (with_reducible repeat (first | apply Kd.V_alloc | apply Kd.V_drewN | apply Kd.V_drew)); exact HO_390000.out) (Kd.R_base ho0) hb)
                  have n1_ := Aside0.mk (Kd.V_elder' (by (with_reducible repeat (first | apply Kd.V_alloc | apply Kd.V_drewN | apply Kd.V_drew)); exact HO_409000.out) (Kd.R_base ho0) hb)
                  have n2_ := Aside0.mk (Kd.V_elder' (by (with_reducible repeat (first | apply Kd.V_alloc | apply Kd.V_drewN | apply Kd.V_drew)); exact HO423.out) (Kd.R_base ho0) hb)
                  have n3_ := Aside0.mk (Kd.V_elder' (by (with_reducible repeat (first | apply Kd.V_alloc | apply Kd.V_drewN | apply Kd.V_drew)); exact HO431.out) (Kd.R_base ho0) hb)
                  have n4_ := Aside0.mk (Kd.R_elder' (by (with_reducible repeat (first | apply Kd.R_alloc | apply Kd.R_drewN | apply Kd.R_drew)); exact HO426.out) (Kd.R_base ho0) hb)
                  have n5_ := Aside0.mk (Kd.R_lower (Kd.R_new' (Kd.R_newM (M := fun k_ => (w.heap.size ≤ k_)) ho0 (below_size (by repeat (first | (with_reducible first | exact HB.out | apply below_alloc | apply pw_below_drewN | apply below_drew1 | refine below_set ?_ GE389.out | refine below_set ?_ GE408.out | refine below_set ?_ GE409.out) | exact HB.out))) (fun k_ h_ => h_)) (Kd.R_lt (by (with_reducible repeat (first | apply Kd.R_alloc | apply Kd.R_drewN | apply Kd.R_drew)); exact HO426.out))) (below_size (by repeat (first | (with_reducible first | exact HB.out | apply below_alloc | apply pw_below_drewN | apply below_drew1 | refine below_set ?_ GE389.out | refine below_set ?_ GE408.out | refine below_set ?_ GE409.out) | exact HB.out))))
                  have n6_ := Aside0.mk (blk_below (g := gb389) (o := .cells #[.slice (some ad418) l0_0.length c0_0] 26 (0, 0)) (by (with_reducible repeat (first | refine blk_drewN ?_ _ | refine blk_drew ?_ | refine blk_alloc ?_ _)); exact BK389.out) hb)
                  have n7_ := Aside0.mk (blk_below (g := gb408) (o := .cells #[.slice Ao23 t396.length co23] 26 (0, 0)) (by (with_reducible repeat (first | refine blk_drewN ?_ _ | refine blk_drew ?_ | refine blk_alloc ?_ _)); exact BK408.out) hb)
                  have n8_ := Aside0.mk (blk_below (g := gb409) (o := .cells #[.int .i64 t399, .int .i64 t400, .int .i64 t401, .int .i64 t402, .int .i64 t403, .int .i64 t404, .int .i64 t405, .string t406] 23 (0, 0)) (by (with_reducible repeat (first | refine blk_drewN ?_ _ | refine blk_drew ?_ | refine blk_alloc ?_ _)); exact BK409.out) hb)
                  have n9_ := Aside0.mk (below_step (by repeat (first | (with_reducible first | exact HB.out | apply below_alloc | apply pw_below_drewN | apply below_drew1 | refine below_set ?_ GE389.out | refine below_set ?_ GE408.out | refine below_set ?_ GE409.out) | exact HB.out)) hb)
                  clear HO_390000
                  clear HO_409000
                  clear HO423
                  clear HO431
                  clear HO426
                  clear BK389
                  clear BK408
                  clear BK409
                  clear HB
                  have HO_390000 := n0_
                  have HO_409000 := n1_
                  have HO423 := n2_
                  have HO431 := n3_
                  have HO426 := n4_
                  have HO434 := n5_
                  have BK389 := n6_
                  have BK408 := n7_
                  have BK409 := n8_
                  have HB := n9_
                  clear n0_ n1_ n2_ n3_ n4_ n5_ n6_ n7_ n8_ n9_
                  (try clear hb)
                  (try clear hb2)
                  (try clear hk)
                  (try clear hi)
                  (try clear ho0)
                  obtain ⟨Ao73, co73, eo73⟩ := Kd.R_slice HO426.out
                  (first | subst eo73 | (injection eo73 with f1_ f2_ f3_; have f4_ := f1_.symm; have f5_ := f3_.symm; clear f1_ f2_ f3_; subst f4_; subst f5_))
                  obtain ⟨Ao74, co74, eo74⟩ := Kd.R_slice HO434.out
                  (first | subst eo74 | (injection eo74 with f1_ f2_ f3_; have f4_ := f1_.symm; have f5_ := f3_.symm; clear f1_ f2_ f3_; subst f4_; subst f5_))
                  refine hK.out _ _ ⟨(blk_cell BK409.out 0).trans rfl, (blk_cell BK409.out 1).trans rfl, (blk_cell BK409.out 2).trans rfl, (blk_cell BK409.out 3).trans rfl, (blk_cell BK409.out 4).trans rfl, (blk_cell BK409.out 5).trans rfl, (blk_cell BK409.out 6).trans rfl, (blk_cell BK409.out 7).trans rfl, (blk_cell BK389.out 0).trans rfl, (blk_cell BK408.out 0).trans rfl, HS10_, HS11_, HS12_, HS13_, HS14_, HS15_, HS16_, HS17_⟩ (fun hHeld => ?_)
                  clear hK K
                  have q75 : (a1 : Int) ≤ ((t396.length : Int) : Int) := of_decide_eq_true (by first | (with_reducible assumption) | assumption)
                  obtain ⟨i075, hi075, _, hsz75, _⟩ := info_parts info23
                  have q075 : (0 : Int) ≤ (a1 : Int) := of_decide_eq_true (by first | (with_reducible assumption) | assumption)
                  have hcut75 := cut_from (P := Try.prog) 24 23 .i64 Try.underlying24 hi075 8 hsz75 Ao23 t396.length co23 a1 q075 q75
                  obtain ⟨A75, hA75⟩ : ∃ Az_, Az_ = (if co23 = (a1 : Int).toNat then Ao23 else (Ao23 : Option Addr).map (·.add ((a1 : Int).toNat * 8))) := ⟨_, rfl⟩
                  obtain ⟨c75, hc75⟩ : ∃ cz_, cz_ = co23 - (a1 : Int).toNat := ⟨_, rfl⟩
                  have hy75 : y436.length = t396.length - (a1 : Int).toNat := (by rw [Ny436.out, List.length_drop] <;> omega)
                  rw [← hy75, ← hA75, ← hc75] at hcut75
                  refine norm_ (a' := ?_) ?_ ?_
                  rotate_left
                  ·show Act.put _ (some 85) _ = _
                   simp only [Act.put, List.setIfInBounds_toArray, List.set_cons_zero, List.set_cons_succ, i64_w, i32_w]
                   rfl
                  refine one_ (i := 32) (N := some 86) #[true, true, true, true, true, true, true, true, true, true, true, true, true, true, true, true, true, true, true, true, true, true, true, true, true, true, true, true, true, true, true, true, true, false, false, false, false, false, false, false, false, false, false, false, false, false, false, false, false, false] rfl rfl (one_of HT_.out (by kernel_rfl)) (by decide) (fun K hK => ?_)
                  refine goes_ Try.func19 (by kernel_rfl) rfl #[.slice Ao73 t424.length co73, .slice Ao74 t432.length co74] (by rfl) rfl rfl (by (try simp only [List.map_toArray, List.map_cons, List.map_nil]); first | done | rfl | (simp only [List.length_drop, List.length_take]; rfl)) ?_
                  with_reducible refine (haywainref22_Same.calls kj17 _ _ t424 _ _ t432 true _ ?side1 ?side2 ?side3 ?side4 A58.out).mono ?_
                  (case side1 => repeat (first | exact (Kd.R_reads' HO426.out).2.2 | (with_reducible refine Kd.C_alloc ?_ _) | (with_reducible refine Kd.C_drewN ?_ _) | (with_reducible refine Kd.C_drew ?_)))
                  (case side2 => exact (Kd.R_reads' HO426.out).2.1)
                  (case side3 => repeat (first | exact (Kd.R_reads' HO434.out).2.2 | (with_reducible refine Kd.C_alloc ?_ _) | (with_reducible refine Kd.C_drewN ?_ _) | (with_reducible refine Kd.C_drew ?_)))
                  (case side4 => exact (Kd.R_reads' HO434.out).2.1)
                  rintro e w' ⟨rfl, ⟨nd, rfl⟩⟩
                  refine ⟨_, rfl, ?_⟩
                  have hroom75 : t396.length ≤ co23 := (Kd.V_reads' HO_409000.out).2.1
                  have hC75 : Kd.F k23 _ _ Ao23 t396.length t396 := (Kd.V_at (base := w.heap.size) HO_409000.out).2.2
                  have hr75 := Kd.F_cut (m := (a1 : Int).toNat) (c := co23) hC75 (by omega) hroom75
                  rw [show (t396).drop (a1 : Int).toNat = y436 from Ny436.out.symm] at hr75
                  replace hr75 : Kd.F k23 _ _ A75 y436.length y436 := (by rw [hA75]; exact hr75)
                  have HO440 := Aside0.mk (show Kd.V k23 23 _ w.heap.size _ (.slice A75 y436.length c75) y436 from Kd.V_mk (by rw [hy75, hc75]; exact Nat.sub_le_sub_right hroom75 _) hr75)
                  have HC440 := Aside0.mk (show y436.length ≤ c75 from by rw [hy75, hc75]; exact Nat.sub_le_sub_right hroom75 _)
                  clear hr75 hC75 hroom75 hi075 hsz75 hc75
                  have KY75 := Aside0.mk hy75
                  have KA75 := Aside0.mk hA75
                  clear hy75 hA75
                  replace q75 := eq_true q75
                  refine hK.out _ _ ⟨(blk_cell BK409.out 0).trans rfl, (blk_cell BK409.out 1).trans rfl, (blk_cell BK409.out 2).trans rfl, (blk_cell BK409.out 3).trans rfl, (blk_cell BK409.out 4).trans rfl, (blk_cell BK409.out 5).trans rfl, (blk_cell BK409.out 6).trans rfl, (blk_cell BK409.out 7).trans rfl, (blk_cell BK389.out 0).trans rfl, (blk_cell BK408.out 0).trans rfl, hHeld.2.2.2.2.2.2.2.2.2.2.1, hHeld.2.2.2.2.2.2.2.2.2.2.2.1, hHeld.2.2.2.2.2.2.2.2.2.2.2.2.1, hHeld.2.2.2.2.2.2.2.2.2.2.2.2.2.1, hHeld.2.2.2.2.2.2.2.2.2.2.2.2.2.2.1, hHeld.2.2.2.2.2.2.2.2.2.2.2.2.2.2.2.1, hHeld.2.2.2.2.2.2.2.2.2.2.2.2.2.2.2.2.1, hHeld.2.2.2.2.2.2.2.2.2.2.2.2.2.2.2.2.2⟩ (fun hHeld => ?_)
                  clear hK K
                  have q77 : ((ji63) : Int) ≤ ((l0_0.length : Int) : Int) := of_decide_eq_true (by first | (with_reducible assumption) | assumption)
                  obtain ⟨i077, hi077, _, hsz77, _⟩ := info_parts info23
                  have q077 : (0 : Int) ≤ ((ji63) : Int) := of_decide_eq_true (by first | (with_reducible assumption) | assumption)
                  have hcut77 := cut_from (P := Try.prog) 24 23 .i64 Try.underlying24 hi077 8 hsz77 (some ad418) l0_0.length c0_0 (ji63) q077 q77
                  obtain ⟨A77, hA77⟩ : ∃ Az_, Az_ = (if c0_0 = ((ji63) : Int).toNat then (some ad418) else ((some ad418) : Option Addr).map (·.add (((ji63) : Int).toNat * 8))) := ⟨_, rfl⟩
                  obtain ⟨c77, hc77⟩ : ∃ cz_, cz_ = c0_0 - ((ji63) : Int).toNat := ⟨_, rfl⟩
                  have hy77 : y444.length = l0_0.length - ((ji63) : Int).toNat := (by rw [Ny444.out, List.length_drop] <;> omega)
                  rw [← hy77, ← hA77, ← hc77] at hcut77
                  have hz177 := hc77.symm
                  have hz277 := hy77.symm
                  have hz377 : (if c0_0 = ((ji63) : Int).toNat then some ad418 else some (ad418.add (((ji63) : Int).toNat * 8))) = A77 := hA77.symm
                  clear hc77 hy77 hA77
                  refine norm_ (a' := ?_) ?_ ?_
                  rotate_left
                  ·show Act.put _ (some 86) _ = _
                   simp only [Act.put, List.setIfInBounds_toArray, List.set_cons_zero, List.set_cons_succ, i64_w, i32_w]
                   rfl
                  refine pure_ (i := 33) (N := some 87) (v := ?_) (a' := ?_) #[true, true, true, true, true, true, true, true, true, true, true, true, true, true, true, true, true, true, true, true, true, true, true, true, true, true, true, true, true, true, true, true, true, true, false, false, false, false, false, false, false, false, false, false, false, false, false, false, false, false] rfl rfl (any_of HT_.out (by kernel_rfl)) (fun _ _ _ h => h) (Or.inl ⟨by rfl, ?_⟩) ?_ ?_
                  rotate_left
                  ·intro w'
                   go_simp
                   with_reducible rfl
                  rotate_left
                  ·simp only [Act.put, List.setIfInBounds_toArray, List.set_cons_zero, List.set_cons_succ, i64_w, i32_w]
                   rfl
                  refine pure_ (i := 34) (N := some 88) (v := ?_) (a' := ?_) #[true, true, true, true, true, true, true, true, true, true, true, true, true, true, true, true, true, true, true, true, true, true, true, true, true, true, true, true, true, true, true, true, true, true, true, false, false, false, false, false, false, false, false, false, false, false, false, false, false, false] rfl rfl (any_of HT_.out (by kernel_rfl)) (fun _ _ _ h => h) (Or.inl ⟨by rfl, ?_⟩) ?_ ?_
                  rotate_left
                  ·intro w'
                   go_simp
                   with_reducible rfl
                  rotate_left
                  ·simp only [Act.put, List.setIfInBounds_toArray, List.set_cons_zero, List.set_cons_succ, i64_w, i32_w]
                   rfl
                  refine pure_ (i := 35) (N := some 89) (v := ?_) (a' := ?_) #[true, true, true, true, true, true, true, true, true, true, true, true, true, true, true, true, true, true, true, true, true, true, true, true, true, true, true, true, true, true, true, true, true, true, true, true, false, false, false, false, false, false, false, false, false, false, false, false, false, false] rfl rfl (any_of HT_.out (by kernel_rfl)) (fun _ _ _ h => h) (Or.inl ⟨by rfl, ?_⟩) ?_ ?_
                  rotate_left
                  ·intro w'
                   go_simp
                   with_reducible rfl
                  rotate_left
                  ·simp only [Act.put, List.setIfInBounds_toArray, List.set_cons_zero, List.set_cons_succ, i64_w, i32_w]
                   rfl
                  refine pure_ (i := 36) (N := some 90) (v := ?_) (a' := ?_) #[true, true, true, true, true, true, true, true, true, true, true, true, true, true, true, true, true, true, true, true, true, true, true, true, true, true, true, true, true, true, true, true, true, true, true, true, true, false, false, false, false, false, false, false, false, false, false, false, false, false] rfl rfl (any_of HT_.out (by kernel_rfl)) (fun _ _ _ h => h) (Or.inl ⟨by rfl, ?_⟩) ?_ ?_
                  rotate_left
                  ·intro w'
                   go_simp
                   with_reducible rfl
                  rotate_left
                  ·simp only [Act.put, List.setIfInBounds_toArray, List.set_cons_zero, List.set_cons_succ, i64_w, i32_w]
                   rfl
                  refine pure_ (i := 38) (N := some 92) (v := ?_) (a' := ?_) #[true, true, true, true, true, true, true, true, true, true, true, true, true, true, true, true, true, true, true, true, true, true, true, true, true, true, true, true, true, true, true, true, true, true, true, true, true, false, true, false, false, false, false, false, false, false, false, false, false, false] rfl rfl (any_of HT_.out (by kernel_rfl)) (fun _ _ _ h => h) (Or.inl ⟨by rfl, ?_⟩) ?_ ?_
                  rotate_left
                  ·intro w'
                   go_simp
                   with_reducible rfl
                  rotate_left
                  ·simp only [Act.put, List.setIfInBounds_toArray, List.set_cons_zero, List.set_cons_succ, i64_w, i32_w]
                   rfl
                  refine pure_ (i := 41) (N := some 95) (v := ?_) (a' := ?_) #[true, true, true, true, true, true, true, true, true, true, true, true, true, true, true, true, true, true, true, true, true, true, true, true, true, true, true, true, true, true, true, true, true, true, true, true, true, false, true, false, false, true, false, false, false, false, false, false, false, false] rfl rfl (any_of HT_.out (by kernel_rfl)) (fun _ _ _ h => h) (Or.inl ⟨by rfl, ?_⟩) ?_ ?_
                  rotate_left
                  ·intro w'
                   go_simp
                   with_reducible rfl
                  rotate_left
                  ·simp only [Act.put, List.setIfInBounds_toArray, List.set_cons_zero, List.set_cons_succ, i64_w, i32_w]
                   rfl
                  refine pure_ (i := 43) (N := some 97) (v := ?_) (a' := ?_) #[true, true, true, true, true, true, true, true, true, true, true, true, true, true, true, true, true, true, true, true, true, true, true, true, true, true, true, true, true, true, true, true, true, true, true, true, true, false, true, false, false, true, false, true, false, false, false, false, false, false] rfl rfl (any_of HT_.out (by kernel_rfl)) (fun _ _ _ h => h) (Or.inl ⟨by rfl, ?_⟩) ?_ ?_
                  rotate_left
                  ·intro w'
                   go_simp
                   with_reducible rfl
                  rotate_left
                  ·simp only [Act.put, List.setIfInBounds_toArray, List.set_cons_zero, List.set_cons_succ, i64_w, i32_w]
                   rfl
                  refine pure_ (i := 44) (N := some 98) (v := ?_) (a' := ?_) #[true, true, true, true, true, true, true, true, true, true, true, true, true, true, true, true, true, true, true, true, true, true, true, true, true, true, true, true, true, true, true, true, true, true, true, true, true, false, true, false, false, true, false, true, true, false, false, false, false, false] rfl rfl (any_of HT_.out (by kernel_rfl)) (fun _ _ _ h => h) (Or.inl ⟨by rfl, ?_⟩) ?_ ?_
                  rotate_left
                  ·intro w'
                   go_simp
                   with_reducible rfl
                  rotate_left
                  ·simp only [Act.put, List.setIfInBounds_toArray, List.set_cons_zero, List.set_cons_succ, i64_w, i32_w]
                   rfl
                  refine take_ (i := 37) (N := some 91) (v := ?_) (a' := ?_) #[true, true, true, true, true, true, true, true, true, true, true, true, true, true, true, true, true, true, true, true, true, true, true, true, true, true, true, true, true, true, true, true, true, true, true, true, true, true, true, false, false, true, false, true, true, false, false, false, false, false] rfl rfl (take_ofW HT_.out HW_.out (by kernel_rfl)) (fun _ _ _ h => h) (Or.inl ⟨by rfl, ?_⟩) hHeld ?_ ?_
                  rotate_left
                  ·rintro w' ⟨s0, s1, s2, s3, s4, s5, s6, s7, s8, s9, s10, s11, s12, s13, s14, s15, s16, s17⟩
                   go_simp
                   with_reducible rfl
                  rotate_left
                  ·simp only [Act.put, List.setIfInBounds_toArray, List.set_cons_zero, List.set_cons_succ, i64_w, i32_w]
                   rfl
                  refine pure_ (i := 39) (N := some 93) (v := ?_) (a' := ?_) #[true, true, true, true, true, true, true, true, true, true, true, true, true, true, true, true, true, true, true, true, true, true, true, true, true, true, true, true, true, true, true, true, true, true, true, true, true, true, true, true, false, true, false, true, true, false, false, false, false, false] rfl rfl (any_of HT_.out (by kernel_rfl)) (fun _ _ _ h => h) (Or.inl ⟨by rfl, ?_⟩) ?_ ?_
                  rotate_left
                  ·intro w'
                   go_simp
                   with_reducible rfl
                  rotate_left
                  ·simp only [Act.put, List.setIfInBounds_toArray, List.set_cons_zero, List.set_cons_succ, i64_w, i32_w]
                   rfl
                  refine take_ (i := 42) (N := some 96) (v := ?_) (a' := ?_) #[true, true, true, true, true, true, true, true, true, true, true, true, true, true, true, true, true, true, true, true, true, true, true, true, true, true, true, true, true, true, true, true, true, true, true, true, true, true, true, true, false, true, true, true, true, false, false, false, false, false] rfl rfl (take_ofW HT_.out HW_.out (by kernel_rfl)) (fun _ _ _ h => h) (Or.inl ⟨by rfl, ?_⟩) hHeld ?_ ?_
                  rotate_left
                  ·rintro w' ⟨s0, s1, s2, s3, s4, s5, s6, s7, s8, s9, s10, s11, s12, s13, s14, s15, s16, s17⟩
                   go_simp
                   with_reducible rfl
                  rotate_left
                  ·simp only [Act.put, List.setIfInBounds_toArray, List.set_cons_zero, List.set_cons_succ, i64_w, i32_w]
                   rfl
                  refine pure_ (i := 45) (N := some 99) (v := ?_) (a' := ?_) #[true, true, true, true, true, true, true, true, true, true, true, true, true, true, true, true, true, true, true, true, true, true, true, true, true, true, true, true, true, true, true, true, true, true, true, true, true, true, true, true, false, true, true, true, true, true, false, false, false, false] rfl rfl (any_of HT_.out (by kernel_rfl)) (fun _ _ _ h => h) (Or.inl ⟨by rfl, ?_⟩) ?_ ?_
                  rotate_left
                  ·intro w'
                   go_simp
                   with_reducible rfl
                  rotate_left
                  ·simp only [Act.put, List.setIfInBounds_toArray, List.set_cons_zero, List.set_cons_succ, i64_w, i32_w]
                   rfl
                  refine one_ (i := 40) (N := some 94) #[true, true, true, true, true, true, true, true, true, true, true, true, true, true, true, true, true, true, true, true, true, true, true, true, true, true, true, true, true, true, true, true, true, true, true, true, true, true, true, true, true, true, true, true, true, true, false, false, false, false] rfl rfl (one_of HT_.out (by kernel_rfl)) (by decide) (fun K hK => ?_)
                  refine goes_ Try.func12 (by kernel_rfl) rfl #[.slice A75 y436.length c75] (by rfl) rfl rfl (by (try simp only [List.map_toArray, List.map_cons, List.map_nil]); first | done | rfl | (simp only [List.length_drop, List.length_take]; rfl)) ?_
                  with_reducible refine (haywainlaw22_As.calls kj17 _ _ y436 t441 _ ?side1 ?side2 A62.out).mono ?_
                  (case side1 => repeat (first | exact (Kd.V_reads' HO440.out).2.2 | (with_reducible refine Kd.C_alloc ?_ _) | (with_reducible refine Kd.C_drewN ?_ _) | (with_reducible refine Kd.C_drew ?_)))
                  (case side2 => exact (Kd.V_reads' HO440.out).2.1)
                  rintro e w76 ⟨v442, rfl, ho0, hb⟩
                  have HS10_ := (hb.cell (World.block_lt_of_cell? _ _ (hHeld.2.2.2.2.2.2.2.2.2.2.1))).trans (hHeld.2.2.2.2.2.2.2.2.2.2.1)
                  have HS11_ := (hb.cell (World.block_lt_of_cell? _ _ (hHeld.2.2.2.2.2.2.2.2.2.2.2.1))).trans (hHeld.2.2.2.2.2.2.2.2.2.2.2.1)
                  have HS12_ := (hb.cell (World.block_lt_of_cell? _ _ (hHeld.2.2.2.2.2.2.2.2.2.2.2.2.1))).trans (hHeld.2.2.2.2.2.2.2.2.2.2.2.2.1)
                  have HS13_ := (hb.cell (World.block_lt_of_cell? _ _ (hHeld.2.2.2.2.2.2.2.2.2.2.2.2.2.1))).trans (hHeld.2.2.2.2.2.2.2.2.2.2.2.2.2.1)
                  have HS14_ := (hb.cell (World.block_lt_of_cell? _ _ (hHeld.2.2.2.2.2.2.2.2.2.2.2.2.2.2.1))).trans (hHeld.2.2.2.2.2.2.2.2.2.2.2.2.2.2.1)
                  have HS15_ := (hb.cell (World.block_lt_of_cell? _ _ (hHeld.2.2.2.2.2.2.2.2.2.2.2.2.2.2.2.1))).trans (hHeld.2.2.2.2.2.2.2.2.2.2.2.2.2.2.2.1)
                  have HS16_ := (hb.cell (World.block_lt_of_cell? _ _ (hHeld.2.2.2.2.2.2.2.2.2.2.2.2.2.2.2.2.1))).trans (hHeld.2.2.2.2.2.2.2.2.2.2.2.2.2.2.2.2.1)
                  have HS17_ := (hb.cell (World.block_lt_of_cell? _ _ (hHeld.2.2.2.2.2.2.2.2.2.2.2.2.2.2.2.2.2))).trans (hHeld.2.2.2.2.2.2.2.2.2.2.2.2.2.2.2.2.2)
                  refine ⟨_, rfl, ?_⟩
                  have n0_ := Aside0.mk (Kd.V_elder' (by (with_reducible repeat (first | apply Kd.V_alloc | apply Kd.V_drewN | apply Kd.V_drew)); exact HO_390000.out) (Kd.R_base ho0) hb)
                  have n1_ := Aside0.mk (Kd.V_elder' (by (with_reducible repeat (first | apply Kd.V_alloc | apply Kd.V_drewN | apply Kd.V_drew)); exact HO_409000.out) (Kd.R_base ho0) hb)
                  have n2_ := Aside0.mk (Kd.V_elder' (by (with_reducible repeat (first | apply Kd.V_alloc | apply Kd.V_drewN | apply Kd.V_drew)); exact HO423.out) (Kd.R_base ho0) hb)
                  have n3_ := Aside0.mk (Kd.V_elder' (by (with_reducible repeat (first | apply Kd.V_alloc | apply Kd.V_drewN | apply Kd.V_drew)); exact HO431.out) (Kd.R_base ho0) hb)
                  have n4_ := Aside0.mk (Kd.R_elder' (by (with_reducible repeat (first | apply Kd.R_alloc | apply Kd.R_drewN | apply Kd.R_drew)); exact HO426.out) (Kd.R_base ho0) hb)
                  have n5_ := Aside0.mk (Kd.R_elder' (by (with_reducible repeat (first | apply Kd.R_alloc | apply Kd.R_drewN | apply Kd.R_drew)); exact HO434.out) (Kd.R_base ho0) hb)
                  have n6_ := Aside0.mk (Kd.V_elder' (by (with_reducible repeat (first | apply Kd.V_alloc | apply Kd.V_drewN | apply Kd.V_drew)); exact HO440.out) (Kd.R_base ho0) hb)
                  have n7_ := Aside0.mk (Kd.R_lower (Kd.R_new' (Kd.R_new' (Kd.R_newM (M := fun k_ => (w.heap.size ≤ k_)) ho0 (below_size (by repeat (first | (with_reducible first | exact HB.out | apply below_alloc | apply pw_below_drewN | apply below_drew1 | refine below_set ?_ GE389.out | refine below_set ?_ GE408.out | refine below_set ?_ GE409.out) | exact HB.out))) (fun k_ h_ => h_)) (Kd.R_lt (by (with_reducible repeat (first | apply Kd.R_alloc | apply Kd.R_drewN | apply Kd.R_drew)); exact HO426.out))) (Kd.R_lt (by (with_reducible repeat (first | apply Kd.R_alloc | apply Kd.R_drewN | apply Kd.R_drew)); exact HO434.out))) (below_size (by repeat (first | (with_reducible first | exact HB.out | apply below_alloc | apply pw_below_drewN | apply below_drew1 | refine below_set ?_ GE389.out | refine below_set ?_ GE408.out | refine below_set ?_ GE409.out) | exact HB.out))))
                  have n8_ := Aside0.mk (blk_below (g := gb389) (o := .cells #[.slice (some ad418) l0_0.length c0_0] 26 (0, 0)) (by (with_reducible repeat (first | refine blk_drewN ?_ _ | refine blk_drew ?_ | refine blk_alloc ?_ _)); exact BK389.out) hb)
                  have n9_ := Aside0.mk (blk_below (g := gb408) (o := .cells #[.slice Ao23 t396.length co23] 26 (0, 0)) (by (with_reducible repeat (first | refine blk_drewN ?_ _ | refine blk_drew ?_ | refine blk_alloc ?_ _)); exact BK408.out) hb)
                  have n10_ := Aside0.mk (blk_below (g := gb409) (o := .cells #[.int .i64 t399, .int .i64 t400, .int .i64 t401, .int .i64 t402, .int .i64 t403, .int .i64 t404, .int .i64 t405, .string t406] 23 (0, 0)) (by (with_reducible repeat (first | refine blk_drewN ?_ _ | refine blk_drew ?_ | refine blk_alloc ?_ _)); exact BK409.out) hb)
                  have n11_ := Aside0.mk (below_step (by repeat (first | (with_reducible first | exact HB.out | apply below_alloc | apply pw_below_drewN | apply below_drew1 | refine below_set ?_ GE389.out | refine below_set ?_ GE408.out | refine below_set ?_ GE409.out) | exact HB.out)) hb)
                  clear HO_390000
                  clear HO_409000
                  clear HO423
                  clear HO431
                  clear HO426
                  clear HO434
                  clear HO440
                  clear BK389
                  clear BK408
                  clear BK409
                  clear HB
                  have HO_390000 := n0_
                  have HO_409000 := n1_
                  have HO423 := n2_
                  have HO431 := n3_
                  have HO426 := n4_
                  have HO434 := n5_
                  have HO440 := n6_
                  have HO443 := n7_
                  have BK389 := n8_
                  have BK408 := n9_
                  have BK409 := n10_
                  have HB := n11_
                  clear n0_ n1_ n2_ n3_ n4_ n5_ n6_ n7_ n8_ n9_ n10_ n11_
                  (try clear hb)
                  (try clear hb2)
                  (try clear hk)
                  (try clear hi)
                  (try clear ho0)
                  have hc77 := hz177.symm
                  have hy77 := hz277.symm
                  have hA77 : A77 = (if c0_0 = ((ji63) : Int).toNat then (some ad418) else ((some ad418) : Option Addr).map (·.add (((ji63) : Int).toNat * 8))) := hz377.symm
                  have hroom77 : l0_0.length ≤ c0_0 := (Kd.V_reads' HO_390000.out).2.1
                  have hC77 : Kd.F k23 _ _ (some ad418) l0_0.length l0_0 := (Kd.V_at (base := w.heap.size) HO_390000.out).2.2
                  have hr77 := Kd.F_cut (m := ((ji63) : Int).toNat) (c := c0_0) hC77 (by omega) hroom77
                  rw [show (l0_0).drop ((ji63) : Int).toNat = y444 from Ny444.out.symm] at hr77
                  replace hr77 : Kd.F k23 _ _ A77 y444.length y444 := (by rw [hA77]; exact hr77)
                  clear hz177 hz277 hz377
                  have HO448 := Aside0.mk (show Kd.V k23 23 _ w.heap.size _ (.slice A77 y444.length c77) y444 from Kd.V_mk (by rw [hy77, hc77]; exact Nat.sub_le_sub_right hroom77 _) hr77)
                  have HC448 := Aside0.mk (show y444.length ≤ c77 from by rw [hy77, hc77]; exact Nat.sub_le_sub_right hroom77 _)
                  clear hr77 hC77 hroom77 hi077 hsz77 hc77
                  have KY77 := Aside0.mk hy77
                  have KA77 := Aside0.mk hA77
                  clear hy77 hA77
                  replace q77 := eq_true q77
                  refine hK.out _ _ ⟨(blk_cell BK409.out 0).trans rfl, (blk_cell BK409.out 1).trans rfl, (blk_cell BK409.out 2).trans rfl, (blk_cell BK409.out 3).trans rfl, (blk_cell BK409.out 4).trans rfl, (blk_cell BK409.out 5).trans rfl, (blk_cell BK409.out 6).trans rfl, (blk_cell BK409.out 7).trans rfl, (blk_cell BK389.out 0).trans rfl, (blk_cell BK408.out 0).trans rfl, HS10_, HS11_, HS12_, HS13_, HS14_, HS15_, HS16_, HS17_⟩ (fun hHeld => ?_)
                  clear hK K
                  refine norm_ (a' := ?_) ?_ ?_
                  rotate_left
                  ·show Act.put _ (some 94) _ = _
                   simp only [Act.put, List.setIfInBounds_toArray, List.set_cons_zero, List.set_cons_succ, i64_w, i32_w]
                   rfl
                  refine one_ (i := 46) (N := some 100) #[true, true, true, true, true, true, true, true, true, true, true, true, true, true, true, true, true, true, true, true, true, true, true, true, true, true, true, true, true, true, true, true, true, true, true, true, true, true, true, true, true, true, true, true, true, true, true, false, false, false] rfl rfl (one_of HT_.out (by kernel_rfl)) (by decide) (fun K hK => ?_)
                  refine goes_ Try.func12 (by kernel_rfl) rfl #[.slice A77 y444.length c77] (by rfl) rfl rfl (by (try simp only [List.map_toArray, List.map_cons, List.map_nil]); first | done | rfl | (simp only [List.length_drop, List.length_take]; rfl)) ?_
                  with_reducible refine (haywainlaw22_As.calls kj17 _ _ y444 t449 _ ?side1 ?side2 A66.out).mono ?_
                  (case side1 => repeat (first | exact (Kd.V_reads' HO448.out).2.2 | (with_reducible refine Kd.C_alloc ?_ _) | (with_reducible refine Kd.C_drewN ?_ _) | (with_reducible refine Kd.C_drew ?_)))
                  (case side2 => exact (Kd.V_reads' HO448.out).2.1)
                  rintro e w78 ⟨v450, rfl, ho0, hb⟩
                  have HS10_ := (hb.cell (World.block_lt_of_cell? _ _ (hHeld.2.2.2.2.2.2.2.2.2.2.1))).trans (hHeld.2.2.2.2.2.2.2.2.2.2.1)
                  have HS11_ := (hb.cell (World.block_lt_of_cell? _ _ (hHeld.2.2.2.2.2.2.2.2.2.2.2.1))).trans (hHeld.2.2.2.2.2.2.2.2.2.2.2.1)
                  have HS12_ := (hb.cell (World.block_lt_of_cell? _ _ (hHeld.2.2.2.2.2.2.2.2.2.2.2.2.1))).trans (hHeld.2.2.2.2.2.2.2.2.2.2.2.2.1)
                  have HS13_ := (hb.cell (World.block_lt_of_cell? _ _ (hHeld.2.2.2.2.2.2.2.2.2.2.2.2.2.1))).trans (hHeld.2.2.2.2.2.2.2.2.2.2.2.2.2.1)
                  have HS14_ := (hb.cell (World.block_lt_of_cell? _ _ (hHeld.2.2.2.2.2.2.2.2.2.2.2.2.2.2.1))).trans (hHeld.2.2.2.2.2.2.2.2.2.2.2.2.2.2.1)
                  have HS15_ := (hb.cell (World.block_lt_of_cell? _ _ (hHeld.2.2.2.2.2.2.2.2.2.2.2.2.2.2.2.1))).trans (hHeld.2.2.2.2.2.2.2.2.2.2.2.2.2.2.2.1)
                  have HS16_ := (hb.cell (World.block_lt_of_cell? _ _ (hHeld.2.2.2.2.2.2.2.2.2.2.2.2.2.2.2.2.1))).trans (hHeld.2.2.2.2.2.2.2.2.2.2.2.2.2.2.2.2.1)
                  have HS17_ := (hb.cell (World.block_lt_of_cell? _ _ (hHeld.2.2.2.2.2.2.2.2.2.2.2.2.2.2.2.2.2))).trans (hHeld.2.2.2.2.2.2.2.2.2.2.2.2.2.2.2.2.2)
                  refine ⟨_, rfl, ?_⟩
                  have n0_ := Aside0.mk (Kd.V_elder' (by (with_reducible repeat (first | apply Kd.V_alloc | apply Kd.V_drewN | apply Kd.V_drew)); exact HO_390000.out) (Kd.R_base ho0) hb)
                  have n1_ := Aside0.mk (Kd.V_elder' (by (with_reducible repeat (first | apply Kd.V_alloc | apply Kd.V_drewN | apply Kd.V_drew)); exact HO_409000.out) (Kd.R_base ho0) hb)
                  have n2_ := Aside0.mk (Kd.V_elder' (by (with_reducible repeat (first | apply Kd.V_alloc | apply Kd.V_drewN | apply Kd.V_drew)); exact HO423.out) (Kd.R_base ho0) hb)
                  have n3_ := Aside0.mk (Kd.V_elder' (by (with_reducible repeat (first | apply Kd.V_alloc | apply Kd.V_drewN | apply Kd.V_drew)); exact HO431.out) (Kd.R_base ho0) hb)
                  have n4_ := Aside0.mk (Kd.R_elder' (by (with_reducible repeat (first | apply Kd.R_alloc | apply Kd.R_drewN | apply Kd.R_drew)); exact HO426.out) (Kd.R_base ho0) hb)
                  have n5_ := Aside0.mk (Kd.R_elder' (by (with_reducible repeat (first | apply Kd.R_alloc | apply Kd.R_drewN | apply Kd.R_drew)); exact HO434.out) (Kd.R_base ho0) hb)
                  have n6_ := Aside0.mk (Kd.V_elder' (by (with_reducible repeat (first | apply Kd.V_alloc | apply Kd.V_drewN | apply Kd.V_drew)); exact HO440.out) (Kd.R_base ho0) hb)
                  have n7_ := Aside0.mk (Kd.R_elder' (by (with_reducible repeat (first | apply Kd.R_alloc | apply Kd.R_drewN | apply Kd.R_drew)); exact HO443.out) (Kd.R_base ho0) hb)
                  have n8_ := Aside0.mk (Kd.V_elder' (by (with_reducible repeat (first | apply Kd.V_alloc | apply Kd.V_drewN | apply Kd.V_drew)); exact HO448.out) (Kd.R_base ho0) hb)
                  have n9_ := Aside0.mk (Kd.R_lower (Kd.R_new' (Kd.R_new' (Kd.R_new' (Kd.R_newM (M := fun k_ => (w.heap.size ≤ k_)) ho0 (below_size (by repeat (first | (with_reducible first | exact HB.out | apply below_alloc | apply pw_below_drewN | apply below_drew1 | refine below_set ?_ GE389.out | refine below_set ?_ GE408.out | refine below_set ?_ GE409.out) | exact HB.out))) (fun k_ h_ => h_)) (Kd.R_lt (by (with_reducible repeat (first | apply Kd.R_alloc | apply Kd.R_drewN | apply Kd.R_drew)); exact HO426.out))) (Kd.R_lt (by (with_reducible repeat (first | apply Kd.R_alloc | apply Kd.R_drewN | apply Kd.R_drew)); exact HO434.out))) (Kd.R_lt (by (with_reducible repeat (first | apply Kd.R_alloc | apply Kd.R_drewN | apply Kd.R_drew)); exact HO443.out))) (below_size (by repeat (first | (with_reducible first | exact HB.out | apply below_alloc | apply pw_below_drewN | apply below_drew1 | refine below_set ?_ GE389.out | refine below_set ?_ GE408.out | refine below_set ?_ GE409.out) | exact HB.out))))
                  have n10_ := Aside0.mk (blk_below (g := gb389) (o := .cells #[.slice (some ad418) l0_0.length c0_0] 26 (0, 0)) (by (with_reducible repeat (first | refine blk_drewN ?_ _ | refine blk_drew ?_ | refine blk_alloc ?_ _)); exact BK389.out) hb)
                  have n11_ := Aside0.mk (blk_below (g := gb408) (o := .cells #[.slice Ao23 t396.length co23] 26 (0, 0)) (by (with_reducible repeat (first | refine blk_drewN ?_ _ | refine blk_drew ?_ | refine blk_alloc ?_ _)); exact BK408.out) hb)
                  have n12_ := Aside0.mk (blk_below (g := gb409) (o := .cells #[.int .i64 t399, .int .i64 t400, .int .i64 t401, .int .i64 t402, .int .i64 t403, .int .i64 t404, .int .i64 t405, .string t406] 23 (0, 0)) (by (with_reducible repeat (first | refine blk_drewN ?_ _ | refine blk_drew ?_ | refine blk_alloc ?_ _)); exact BK409.out) hb)
                  have n13_ := Aside0.mk (below_step (by repeat (first | (with_reducible first | exact HB.out | apply below_alloc | apply pw_below_drewN | apply below_drew1 | refine below_set ?_ GE389.out | refine below_set ?_ GE408.out | refine below_set ?_ GE409.out) | exact HB.out)) hb)
                  clear HO_390000
                  clear HO_409000
                  clear HO423
                  clear HO431
                  clear HO426
                  clear HO434
                  clear HO440
                  clear HO443
                  clear HO448
                  clear BK389
                  clear BK408
                  clear BK409
                  clear HB
                  have HO_390000 := n0_
                  have HO_409000 := n1_
                  have HO423 := n2_
                  have HO431 := n3_
                  have HO426 := n4_
                  have HO434 := n5_
                  have HO440 := n6_
                  have HO443 := n7_
                  have HO448 := n8_
                  have HO451 := n9_
                  have BK389 := n10_
                  have BK408 := n11_
                  have BK409 := n12_
                  have HB := n13_
                  clear n0_ n1_ n2_ n3_ n4_ n5_ n6_ n7_ n8_ n9_ n10_ n11_ n12_ n13_
                  (try clear hb)
                  (try clear hb2)
                  (try clear hk)
                  (try clear hi)
                  (try clear ho0)
                  obtain ⟨Ao79, co79, eo79⟩ := Kd.R_slice HO443.out
                  (first | subst eo79 | (injection eo79 with f1_ f2_ f3_; have f4_ := f1_.symm; have f5_ := f3_.symm; clear f1_ f2_ f3_; subst f4_; subst f5_))
                  obtain ⟨Ao80, co80, eo80⟩ := Kd.R_slice HO451.out
                  (first | subst eo80 | (injection eo80 with f1_ f2_ f3_; have f4_ := f1_.symm; have f5_ := f3_.symm; clear f1_ f2_ f3_; subst f4_; subst f5_))
                  refine hK.out _ _ ⟨(blk_cell BK409.out 0).trans rfl, (blk_cell BK409.out 1).trans rfl, (blk_cell BK409.out 2).trans rfl, (blk_cell BK409.out 3).trans rfl, (blk_cell BK409.out 4).trans rfl, (blk_cell BK409.out 5).trans rfl, (blk_cell BK409.out 6).trans rfl, (blk_cell BK409.out 7).trans rfl, (blk_cell BK389.out 0).trans rfl, (blk_cell BK408.out 0).trans rfl, HS10_, HS11_, HS12_, HS13_, HS14_, HS15_, HS16_, HS17_⟩ (fun hHeld => ?_)
                  clear hK K
                  refine norm_ (a' := ?_) ?_ ?_
                  rotate_left
                  ·show Act.put _ (some 100) _ = _
                   simp only [Act.put, List.setIfInBounds_toArray, List.set_cons_zero, List.set_cons_succ, i64_w, i32_w]
                   rfl
                  refine one_ (i := 47) (N := some 101) #[true, true, true, true, true, true, true, true, true, true, true, true, true, true, true, true, true, true, true, true, true, true, true, true, true, true, true, true, true, true, true, true, true, true, true, true, true, true, true, true, true, true, true, true, true, true, true, true, false, false] rfl rfl (one_of HT_.out (by kernel_rfl)) (by decide) (fun K hK => ?_)
                  refine goes_ Try.func19 (by kernel_rfl) rfl #[.slice Ao79 t441.length co79, .slice Ao80 t449.length co80] (by rfl) rfl rfl (by (try simp only [List.map_toArray, List.map_cons, List.map_nil]); first | done | rfl | (simp only [List.length_drop, List.length_take]; rfl)) ?_
                  with_reducible refine (haywainref22_Same.calls kj17 _ _ t441 _ _ t449 t452 _ ?side1 ?side2 ?side3 ?side4 A67.out).mono ?_
                  (case side1 => repeat (first | exact (Kd.R_reads' HO443.out).2.2 | (with_reducible refine Kd.C_alloc ?_ _) | (with_reducible refine Kd.C_drewN ?_ _) | (with_reducible refine Kd.C_drew ?_)))
                  (case side2 => exact (Kd.R_reads' HO443.out).2.1)
                  (case side3 => repeat (first | exact (Kd.R_reads' HO451.out).2.2 | (with_reducible refine Kd.C_alloc ?_ _) | (with_reducible refine Kd.C_drewN ?_ _) | (with_reducible refine Kd.C_drew ?_)))
                  (case side4 => exact (Kd.R_reads' HO451.out).2.1)
                  rintro e w' ⟨rfl, ⟨nd, rfl⟩⟩
                  refine ⟨_, rfl, ?_⟩
                  refine hK.out _ _ ⟨(blk_cell BK409.out 0).trans rfl, (blk_cell BK409.out 1).trans rfl, (blk_cell BK409.out 2).trans rfl, (blk_cell BK409.out 3).trans rfl, (blk_cell BK409.out 4).trans rfl, (blk_cell BK409.out 5).trans rfl, (blk_cell BK409.out 6).trans rfl, (blk_cell BK409.out 7).trans rfl, (blk_cell BK389.out 0).trans rfl, (blk_cell BK408.out 0).trans rfl, hHeld.2.2.2.2.2.2.2.2.2.2.1, hHeld.2.2.2.2.2.2.2.2.2.2.2.1, hHeld.2.2.2.2.2.2.2.2.2.2.2.2.1, hHeld.2.2.2.2.2.2.2.2.2.2.2.2.2.1, hHeld.2.2.2.2.2.2.2.2.2.2.2.2.2.2.1, hHeld.2.2.2.2.2.2.2.2.2.2.2.2.2.2.2.1, hHeld.2.2.2.2.2.2.2.2.2.2.2.2.2.2.2.2.1, hHeld.2.2.2.2.2.2.2.2.2.2.2.2.2.2.2.2.2⟩ (fun hHeld => ?_)
                  clear hK K
                  refine norm_ (a' := ?_) ?_ ?_
                  rotate_left
                  ·show Act.put _ (some 101) _ = _
                   simp only [Act.put, List.setIfInBounds_toArray, List.set_cons_zero, List.set_cons_succ, i64_w, i32_w]
                   rfl
                  refine pure_ (i := 48) (N := some 102) (v := ?_) (a' := ?_) #[true, true, true, true, true, true, true, true, true, true, true, true, true, true, true, true, true, true, true, true, true, true, true, true, true, true, true, true, true, true, true, true, true, true, true, true, true, true, true, true, true, true, true, true, true, true, true, true, true, false] rfl rfl (any_of HT_.out (by kernel_rfl)) (fun _ _ _ h => h) (Or.inl ⟨by rfl, ?_⟩) ?_ ?_
                  rotate_left
                  ·intro w'
                   go_simp
                   with_reducible rfl
                  rotate_left
                  ·simp only [Act.put, List.setIfInBounds_toArray, List.set_cons_zero, List.set_cons_succ, i64_w, i32_w]
                   rfl
                  refine pure_ (i := 49) (N := some 103) (v := ?_) (a' := ?_) #[true, true, true, true, true, true, true, true, true, true, true, true, true, true, true, true, true, true, true, true, true, true, true, true, true, true, true, true, true, true, true, true, true, true, true, true, true, true, true, true, true, true, true, true, true, true, true, true, true, true] rfl rfl (any_of HT_.out (by kernel_rfl)) (fun _ _ _ h => h) (Or.inl ⟨by rfl, ?_⟩) ?_ ?_
                  rotate_left
                  ·intro w'
                   go_simp
                   with_reducible rfl
                  rotate_left
                  ·simp only [Act.put, List.setIfInBounds_toArray, List.set_cons_zero, List.set_cons_succ, i64_w, i32_w]
                   rfl
                  refine done_ (done_of HT_.out (by kernel_rfl)) ?_
                  try go_wp2
                  go_meet
                  case rel => exact ⟨_, (!t452), (by first | rfl | (simp; done) | (simp [*]; done)), H', ⟨by have := HJ2.out; have := HJ17.out; first | omega | exact Nat.le_refl _⟩, ⟨by (with_reducible repeat (first | apply Kd.V_alloc | apply Kd.V_drewN | apply Kd.V_drew)); exact Kd.V_mono HO_390000.out (fun _ hk => ⟨hk.1.1.1.1.1, ⟨hk.1.1.1.1.2.1, ⟨hk.1.1.1.1.2.2.1, hk.1.1.1.1.2.2.2⟩⟩⟩)⟩, ⟨by (with_reducible repeat (first | apply Kd.V_alloc | apply Kd.V_drewN | apply Kd.V_drew)); exact Kd.V_mono HO_409000.out (fun _ hk => ⟨hk.1.1.1.1.1, ⟨hk.1.1.1.1.2.1, ⟨hk.1.1.1.1.2.2.1, hk.1.1.1.1.2.2.2⟩⟩⟩)⟩, ⟨by (with_reducible repeat (first | refine blk_drewN ?_ _ | refine blk_drew ?_ | refine blk_alloc ?_ _)); exact BK389.out⟩, ⟨by (with_reducible repeat (first | refine blk_drewN ?_ _ | refine blk_drew ?_ | refine blk_alloc ?_ _)); exact BK408.out⟩, ⟨by (with_reducible repeat (first | refine blk_drewN ?_ _ | refine blk_drew ?_ | refine blk_alloc ?_ _)); exact BK409.out⟩, ⟨by repeat (first | (with_reducible first | exact HB.out | apply below_alloc | apply pw_below_drewN | apply below_drew1 | refine below_set ?_ GE389.out | refine below_set ?_ GE408.out | refine below_set ?_ GE409.out) | exact HB.out)⟩⟩
                 ·rw [if_neg c65] at H
                  exact absurd H (by simp)
                ·rw [if_neg c64] at H
                 exact absurd H (by simp)
               ·replace c59 := Bool.eq_false_iff.mpr c59
                subst c59
                have H1 : (none) = some r := by rw [if_neg (show ¬ (false = true) by decide)] at H; exact H
                clear H
                have H := H1
                clear H1
                exact absurd H (by simp)
              ·rw [if_neg c56] at H
               exact absurd H (by simp)
             ·rw [if_neg c53] at H
              exact absurd H (by simp)
            ·rw [if_neg c51] at H
             exact absurd H (by simp)
          ·rw [if_neg c49] at H
           exact absurd H (by simp)
         ·rw [if_neg c48] at H
          exact absurd H (by simp)
        ·rw [if_neg c47] at H
         exact absurd H (by simp)
       case rest =>
        clear HC46
        try clear c1
        try clear p2
        try clear c4
        try clear c5
        try clear c6
        try clear c7
        try clear q7
        try clear c12
        try clear c19
        try clear c47
        try clear c48
        try clear c49
        try clear c51
        try clear c53
        try clear c56
        try clear c59
        try clear c64
        try clear c65
        try clear c75
        try clear q75
        try clear c77
        try clear q77
        try clear q075
        try clear q077
        try clear q75
        try clear q77
        obtain ⟨kq, x103_45, rfl, HA, HJ45, HO_390000, HO_409000, BK389, BK408, BK409, HB⟩ := hcut
        cases kq with
        | zero => exact absurd HA.out (by simp [haywainlaw22_NetGives.j2])
        | succ kj45 =>
         have H := HA.out
         clear HA
         simp only [haywainlaw22_NetGives.j2] at H
         by_cases c81 : x103_45 = true
         ·subst c81
          have H1 : (none) = some r := by rw [if_pos rfl] at H; exact H
          clear H
          have H := H1
          clear H1
          exact absurd H (by simp)
         ·replace c81 := Bool.eq_false_iff.mpr c81
          subst c81
          have H1 : (haywainlaw22_NetGives.l0 kj45 0 l0_0 l0_0) = some r := by rw [if_neg (show ¬ (false = true) by decide)] at H; exact H
          clear H
          have H := H1
          clear H1
          have H' := Aside0.mk H
          clear H
          have hnb82 := NB389_408.out
          have hnc82 := NB408_389.out
          have hnb83 := NB389_409.out
          have hnc83 := NB409_389.out
          have hcz84_0 : wc.cell? ⟨gb389, 0, none⟩ = some (.slice A0_0 l0_0.length c0_0) := (blk_cell BK389.out 0).trans rfl
          have hfz84_0 := blk_frozen BK389.out 0
          go_wp2_with (first | ((with_reducible refine gate_dst (N := 8) rfl ?_); (try (refine gate_guard (by rfl) ?_; dsimp only)); refine box_event ?hg (N := 8) ?hd (cs := #[.slice none 0 0]) (t := 26) ?hr ?_; (case hd => rfl); (case hg => rfl); (case hr => first | (go_simp; done) | (go_simp; rfl)); intro gb453 hg w85 hbox hb; have n0_ := Aside0.mk (Kd.V_below (Kd.V_elderB (by (with_reducible repeat (first | apply Kd.V_alloc | apply Kd.V_drewN | apply Kd.V_drew)); exact HO_390000.out) gb453 (Nat.le_of_eq hg.symm)) hb); have n1_ := Aside0.mk (Kd.V_below (Kd.V_elderB (by (with_reducible repeat (first | apply Kd.V_alloc | apply Kd.V_drewN | apply Kd.V_drew)); exact HO_409000.out) gb453 (Nat.le_of_eq hg.symm)) hb); have n2_ := Aside0.mk (blk_below (g := gb389) (o := .cells #[.slice A0_0 l0_0.length c0_0] 26 (0, 0)) (by (with_reducible repeat (first | refine blk_drewN ?_ _ | refine blk_drew ?_ | refine blk_alloc ?_ _)); exact BK389.out) hb); have n3_ := Aside0.mk (blk_below (g := gb408) (o := .cells #[.slice Ao23 t396.length co23] 26 (0, 0)) (by (with_reducible repeat (first | refine blk_drewN ?_ _ | refine blk_drew ?_ | refine blk_alloc ?_ _)); exact BK408.out) hb); have n4_ := Aside0.mk (blk_below (g := gb409) (o := .cells #[.int .i64 t399, .int .i64 t400, .int .i64 t401, .int .i64 t402, .int .i64 t403, .int .i64 t404, .int .i64 t405, .string t406] 23 (0, 0)) (by (with_reducible repeat (first | refine blk_drewN ?_ _ | refine blk_drew ?_ | refine blk_alloc ?_ _)); exact BK409.out) hb); have n5_ := Aside0.mk (below_step (by repeat (first | (with_reducible first | exact HB.out | apply below_alloc | apply pw_below_drewN | apply below_drew1 | refine below_set ?_ GE389.out | refine below_set ?_ GE408.out | refine below_set ?_ GE409.out) | exact HB.out)) hb); have n6_ := Aside0.mk (hbox); have n7_ := Aside0.mk ((by rw [hg]; exact (below_size (by repeat (first | (with_reducible first | exact HB.out | apply below_alloc | apply pw_below_drewN | apply below_drew1 | refine below_set ?_ GE389.out | refine below_set ?_ GE408.out | refine below_set ?_ GE409.out) | exact HB.out))) : w.heap.size ≤ gb453)); have n8_ := Aside0.mk ((by rw [hg]; exact (below_size (by repeat (first | (with_reducible first | exact HB.out | apply below_alloc | apply pw_below_drewN | apply below_drew1 | refine below_set ?_ GE389.out | refine below_set ?_ GE408.out | refine below_set ?_ GE409.out) | exact HB.out))) : w.heap.size ≤ gb453)); have n9_ := Aside0.mk ((by rw [hg]; exact Nat.ne_of_lt (blk_lt (g := gb389) (o := .cells #[.slice A0_0 l0_0.length c0_0] 26 (0, 0)) (by (with_reducible repeat (first | refine blk_drewN ?_ _ | refine blk_drew ?_ | refine blk_alloc ?_ _)); exact BK389.out)) : gb389 ≠ gb453)); have n10_ := Aside0.mk ((by rw [hg]; exact Nat.ne_of_gt (blk_lt (g := gb389) (o := .cells #[.slice A0_0 l0_0.length c0_0] 26 (0, 0)) (by (with_reducible repeat (first | refine blk_drewN ?_ _ | refine blk_drew ?_ | refine blk_alloc ?_ _)); exact BK389.out)) : gb453 ≠ gb389)); have n11_ := Aside0.mk ((by rw [hg]; exact Nat.ne_of_lt (blk_lt (g := gb408) (o := .cells #[.slice Ao23 t396.length co23] 26 (0, 0)) (by (with_reducible repeat (first | refine blk_drewN ?_ _ | refine blk_drew ?_ | refine blk_alloc ?_ _)); exact BK408.out)) : gb408 ≠ gb453)); have n12_ := Aside0.mk ((by rw [hg]; exact Nat.ne_of_gt (blk_lt (g := gb408) (o := .cells #[.slice Ao23 t396.length co23] 26 (0, 0)) (by (with_reducible repeat (first | refine blk_drewN ?_ _ | refine blk_drew ?_ | refine blk_alloc ?_ _)); exact BK408.out)) : gb453 ≠ gb408)); have n13_ := Aside0.mk ((by rw [hg]; exact Nat.ne_of_lt (blk_lt (g := gb409) (o := .cells #[.int .i64 t399, .int .i64 t400, .int .i64 t401, .int .i64 t402, .int .i64 t403, .int .i64 t404, .int .i64 t405, .string t406] 23 (0, 0)) (by (with_reducible repeat (first | refine blk_drewN ?_ _ | refine blk_drew ?_ | refine blk_alloc ?_ _)); exact BK409.out)) : gb409 ≠ gb453)); have n14_ := Aside0.mk ((by rw [hg]; exact Nat.ne_of_gt (blk_lt (g := gb409) (o := .cells #[.int .i64 t399, .int .i64 t400, .int .i64 t401, .int .i64 t402, .int .i64 t403, .int .i64 t404, .int .i64 t405, .string t406] 23 (0, 0)) (by (with_reducible repeat (first | refine blk_drewN ?_ _ | refine blk_drew ?_ | refine blk_alloc ?_ _)); exact BK409.out)) : gb453 ≠ gb409)); clear HO_390000; clear HO_409000; clear BK389; clear BK408; clear BK409; clear HB; have HO_390000 := n0_; have HO_409000 := n1_; have BK389 := n2_; have BK408 := n3_; have BK409 := n4_; have HB := n5_; have BK453 := n6_; have GW453 := n7_; have GE453 := n8_; have NB389_453 := n9_; have NB453_389 := n10_; have NB408_453 := n11_; have NB453_408 := n12_; have NB409_453 := n13_; have NB453_409 := n14_; clear n0_ n1_ n2_ n3_ n4_ n5_ n6_ n7_ n8_ n9_ n10_ n11_ n12_ n13_ n14_; clear hb hbox hg; have hnb86 := NB453_389.out; have hnc86 := NB389_453.out; have hnb87 := NB453_408.out; have hnc87 := NB408_453.out; have hnb88 := NB453_409.out; have hnc88 := NB409_453.out; have hcz89_0 : w85.cell? ⟨gb453, 0, none⟩ = some (.slice none 0 0) := (blk_cell BK453.out 0).trans rfl; have hfz89_0 := blk_frozen BK453.out 0))
          go_loopg [9] kj45 (fun kq v9 w' => ∃ (x9_4 : Int) (x454000_4 : List (S23)) (u454000 : Value), v9 = .int .i64 x9_4 ∧ Aside0 (haywainlaw22_NetGives.l0 kq x9_4 l0_0 x454000_4 = some r) ∧ Aside0 (kq ≤ kj45) ∧ Aside0 (Kd.V k23 23 w' w.heap.size (fun k_ => (P0_0_ k_ ∨ w.heap.size ≤ k_) ∧ k_ ≠ gb389 ∧ k_ ≠ gb408 ∧ k_ ≠ gb409 ∧ k_ ≠ gb453) (.slice A0_0 l0_0.length c0_0) l0_0) ∧ Aside0 (Kd.V k23 23 w' w.heap.size (fun k_ => (P0_0_ k_ ∨ w.heap.size ≤ k_) ∧ k_ ≠ gb389 ∧ k_ ≠ gb408 ∧ k_ ≠ gb409 ∧ k_ ≠ gb453) (.slice Ao23 t396.length co23) t396) ∧ Aside0 (Kd.V k23 23 w' w.heap.size (fun k_ => (P0_0_ k_ ∨ w.heap.size ≤ k_) ∧ k_ ≠ gb389 ∧ k_ ≠ gb408 ∧ k_ ≠ gb409 ∧ k_ ≠ gb453) u454000 x454000_4) ∧ Aside0 (w'.heap[gb389]? = some (.cells #[(.slice A0_0 l0_0.length c0_0)] 26 (0, 0))) ∧ Aside0 (w'.heap[gb408]? = some (.cells #[(.slice Ao23 t396.length co23)] 26 (0, 0))) ∧ Aside0 (w'.heap[gb409]? = some (.cells #[.int .i64 t399, .int .i64 t400, .int .i64 t401, .int .i64 t402, .int .i64 t403, .int .i64 t404, .int .i64 t405, .string t406] 23 (0, 0))) ∧ Aside0 (w'.heap[gb453]? = some (.cells #[u454000] 26 (0, 0))) ∧ Aside0 (Below w.heap.size w w'))
          case atStart => exact ⟨(0), (l0_0), (.slice A0_0 l0_0.length c0_0), (by first | rfl | (simp; done) | (simp [*]; done)), H', ⟨Nat.le_refl _⟩, ⟨by (with_reducible repeat (first | apply Kd.V_alloc | apply Kd.V_drewN | apply Kd.V_drew)); exact Kd.V_mono (Kd.V_far (p := ⟨gb453, 0, none⟩) (Kd.V_mono HO_390000.out (fun k_ hk => (⟨hk, hk.2⟩ : _ ∧ k_ ≠ gb453))) (fun _ hk => hk.2) (.slice A0_0 l0_0.length c0_0)) (fun _ hk => ⟨hk.1.1.1, ⟨hk.1.1.2.1, ⟨hk.1.1.2.2.1, ⟨hk.1.1.2.2.2, hk.1.2⟩⟩⟩⟩)⟩, ⟨by (with_reducible repeat (first | apply Kd.V_alloc | apply Kd.V_drewN | apply Kd.V_drew)); exact Kd.V_mono (Kd.V_far (p := ⟨gb453, 0, none⟩) (Kd.V_mono HO_409000.out (fun k_ hk => (⟨hk, hk.2⟩ : _ ∧ k_ ≠ gb453))) (fun _ hk => hk.2) (.slice A0_0 l0_0.length c0_0)) (fun _ hk => ⟨hk.1.1.1, ⟨hk.1.1.2.1, ⟨hk.1.1.2.2.1, ⟨hk.1.1.2.2.2, hk.1.2⟩⟩⟩⟩)⟩, ⟨by (with_reducible repeat (first | apply Kd.V_alloc | apply Kd.V_drewN | apply Kd.V_drew)); exact Kd.V_mono (Kd.V_far (p := ⟨gb453, 0, none⟩) (Kd.V_mono HO_390000.out (fun k_ hk => (⟨hk, hk.2⟩ : _ ∧ k_ ≠ gb453))) (fun _ hk => hk.2) (.slice A0_0 l0_0.length c0_0)) (fun _ hk => ⟨hk.1.1.1, ⟨hk.1.1.2.1, ⟨hk.1.1.2.2.1, ⟨hk.1.1.2.2.2, hk.1.2⟩⟩⟩⟩)⟩, ⟨by (with_reducible repeat (first | refine blk_drewN ?_ _ | refine blk_drew ?_ | refine blk_alloc ?_ _)); refine blk_far ?_ NB389_453.out _; (with_reducible repeat (first | refine blk_drewN ?_ _ | refine blk_drew ?_ | refine blk_alloc ?_ _)); exact BK389.out⟩, ⟨by (with_reducible repeat (first | refine blk_drewN ?_ _ | refine blk_drew ?_ | refine blk_alloc ?_ _)); refine blk_far ?_ NB408_453.out _; (with_reducible repeat (first | refine blk_drewN ?_ _ | refine blk_drew ?_ | refine blk_alloc ?_ _)); exact BK408.out⟩, ⟨by (with_reducible repeat (first | refine blk_drewN ?_ _ | refine blk_drew ?_ | refine blk_alloc ?_ _)); refine blk_far ?_ NB409_453.out _; (with_reducible repeat (first | refine blk_drewN ?_ _ | refine blk_drew ?_ | refine blk_alloc ?_ _)); exact BK409.out⟩, ⟨by (with_reducible repeat (first | refine blk_drewN ?_ _ | refine blk_drew ?_ | refine blk_alloc ?_ _)); refine blk_put (cs := #[.slice none 0 0]) ?_ 0 _ rfl; (with_reducible repeat (first | refine blk_drewN ?_ _ | refine blk_drew ?_ | refine blk_alloc ?_ _)); exact BK453.out⟩, ⟨by repeat (first | (with_reducible first | exact HB.out | apply below_alloc | apply pw_below_drewN | apply below_drew1 | refine below_set ?_ GE389.out | refine below_set ?_ GE408.out | refine below_set ?_ GE409.out | refine below_set ?_ GE453.out) | exact HB.out)⟩⟩
          case round =>
           clear H'
           try clear c1
           try clear p2
           try clear c4
           try clear c5
           try clear c6
           try clear c7
           try clear q7
           try clear c8
           try clear c12
           try clear c19
           try clear c47
           try clear c48
           try clear c49
           try clear c51
           try clear c53
           try clear c56
           try clear c59
           try clear c64
           try clear c65
           try clear c75
           try clear q75
           try clear c77
           try clear q77
           try clear c81
           try clear c82
           try clear c83
           try clear c86
           try clear c87
           try clear c88
           try clear hcz84_0
           try clear hcz89_0
           try clear hfz84_0
           try clear hfz89_0
           try clear p2
           try clear q075
           try clear q077
           try clear q7
           try clear q75
           try clear q77
           obtain ⟨x9_4, x454000_4, u454000, rfl, HA, HK4, HO_390000, HO_409000, HO_454000, BK389, BK408, BK409, BK453, HB⟩ := hrel
           cases gk with
           | zero => exact absurd HA.out (by simp [haywainlaw22_NetGives.l0])
           | succ k4 =>
            have H := HA.out
            clear HA
            simp only [haywainlaw22_NetGives.l0] at H
            by_cases c90 : x9_4 < (l0_0.length : Int)
            ·rw [if_pos c90] at H
             have c90b0 : decide (x9_4 < (l0_0.length : Int)) = true := decide_eq_true c90
             clear c90
             replace H := Option.bind_eq_some_iff.mp H
             obtain ⟨⟨t454, t457, t458, t459, t460, t461, t462, t463, t464, t465⟩, A910, H⟩ := H
             replace H : (if t465 = 0 then (if 0 ≤ x9_4 then (if (!(t457 == ((rd_T23 l0_0 x9_4).f0)) || (!(t458 == ((rd_T23 l0_0 x9_4).f1)) || (!(t459 == ((rd_T23 l0_0 x9_4).f2)) || (!(t460 == ((rd_T23 l0_0 x9_4).f3)) || (!(t461 == ((rd_T23 l0_0 x9_4).f4)) || (!(t462 == ((rd_T23 l0_0 x9_4).f5)) || (!(t463 == ((rd_T23 l0_0 x9_4).f6)) || (!(t464.toList == (((rd_T23 l0_0 x9_4).f7).toList)))))))))) = true then (none) else (haywainlaw22_NetGives.l0 k4 (wrap64 (x9_4 + 1)) l0_0 t454)) else (none)) else (none)) = some r := H
             have A91 := Aside0.mk A910
             clear A910
             by_cases c92 : t465 = 0
             ·rw [if_pos c92] at H
              have c92b0 : (t465 == 0) = true := beq_iff_eq.mpr c92
              have c92b1 : (t465 != 0) = false := bne_eq_false_iff_eq.mpr c92
              clear c92
              by_cases c93 : 0 ≤ x9_4
              ·rw [if_pos c93] at H
               have c93b0 : decide (0 ≤ x9_4) = true := decide_eq_true c93
               clear c93
               by_cases c94 : (!(t457 == ((rd_T23 l0_0 x9_4).f0)) || (!(t458 == ((rd_T23 l0_0 x9_4).f1)) || (!(t459 == ((rd_T23 l0_0 x9_4).f2)) || (!(t460 == ((rd_T23 l0_0 x9_4).f3)) || (!(t461 == ((rd_T23 l0_0 x9_4).f4)) || (!(t462 == ((rd_T23 l0_0 x9_4).f5)) || (!(t463 == ((rd_T23 l0_0 x9_4).f6)) || (!(t464.toList == (((rd_T23 l0_0 x9_4).f7).toList)))))))))) = true
               ·rw [if_pos c94] at H
                exact absurd H (by simp)
               ·rw [if_neg c94] at H
                have c94b0 : (!(t457 == ((rd_T23 l0_0 x9_4).f0)) || (!(t458 == ((rd_T23 l0_0 x9_4).f1)) || (!(t459 == ((rd_T23 l0_0 x9_4).f2)) || (!(t460 == ((rd_T23 l0_0 x9_4).f3)) || (!(t461 == ((rd_T23 l0_0 x9_4).f4)) || (!(t462 == ((rd_T23 l0_0 x9_4).f5)) || (!(t463 == ((rd_T23 l0_0 x9_4).f6)) || (!(t464.toList == (((rd_T23 l0_0 x9_4).f7).toList)))))))))) = false := by simpa using c94
                clear c94
                have H' := Aside0.mk H
                clear H
                have hnb95 := NB389_408.out
                have hnc95 := NB408_389.out
                have hnb96 := NB389_409.out
                have hnc96 := NB409_389.out
                have hnb97 := NB389_453.out
                have hnc97 := NB453_389.out
                have hcz98_0 : wr.cell? ⟨gb389, 0, none⟩ = some (.slice A0_0 l0_0.length c0_0) := (blk_cell BK389.out 0).trans rfl
                have hfz98_0 := blk_frozen BK389.out 0
                have hnb99 := NB453_408.out
                have hnc99 := NB408_453.out
                have hnb100 := NB453_409.out
                have hnc100 := NB409_453.out
                have hcz101_0 : wr.cell? ⟨gb453, 0, none⟩ = some (u454000) := (blk_cell BK453.out 0).trans rfl
                have hfz101_0 := blk_frozen BK453.out 0
                obtain ⟨Ao102, co102, eo102⟩ := Kd.V_slice HO_454000.out
                subst eo102
                try go_wp2_with (first | ((with_reducible refine gate_callee (f := 17) rfl ?_); refine goesL_ (some 114) rfl rfl Try.func17 (by kernel_rfl) rfl #[.agg #[.slice Ao102 x454000_4.length co102], .int .i64 0] rfl (by (try simp only [List.map_toArray, List.map_cons, List.map_nil]); first | done | rfl | (simp only [List.length_drop, List.length_take]; rfl)) ?_; (with_reducible refine (net_Give.calls k4 _ _ x454000_4 0 t454 t457 t458 t459 t460 t461 t462 t463 t464 t465 _ ?side1 ?side2 A91.out).mono ?_); (case side1 => repeat (first | exact (Kd.V_reads' HO_454000.out).2.2 | (with_reducible refine Kd.C_alloc ?_ _) | (with_reducible refine Kd.C_drewN ?_ _) | (with_reducible refine Kd.C_drew ?_))); (case side2 => exact (Kd.V_reads' HO_454000.out).2.1); rintro e w103 ⟨v455, rfl, ho0, hb⟩; refine ⟨_, rfl, ?_⟩; have n0_ := Aside0.mk (Kd.V_below (by (with_reducible repeat (first | apply Kd.V_alloc | apply Kd.V_drewN | apply Kd.V_drew)); exact HO_390000.out) hb); have n1_ := Aside0.mk (Kd.V_below (by (with_reducible repeat (first | apply Kd.V_alloc | apply Kd.V_drewN | apply Kd.V_drew)); exact HO_409000.out) hb); have n2_ := Aside0.mk (Kd.V_below (by (with_reducible repeat (first | apply Kd.V_alloc | apply Kd.V_drewN | apply Kd.V_drew)); exact HO_454000.out) hb); have n3_ := Aside0.mk (Kd.V_lower (Kd.V_mono (ok' := fun k_ => (P0_0_ k_ ∨ w.heap.size ≤ k_) ∧ k_ ≠ gb389 ∧ k_ ≠ gb408 ∧ k_ ≠ gb409 ∧ k_ ≠ gb453) ho0 (fun k_ hk_ => ⟨(.inr (Nat.le_trans (below_size (by repeat (first | (with_reducible first | exact HB.out | apply below_alloc | apply pw_below_drewN | apply below_drew1 | refine below_set ?_ GE389.out | refine below_set ?_ GE408.out | refine below_set ?_ GE409.out | refine below_set ?_ GE453.out) | exact HB.out))) hk_)), (Kd.freshB (g := gb389) (o := .cells #[.slice A0_0 l0_0.length c0_0] 26 (0, 0)) (by (with_reducible repeat (first | refine blk_drewN ?_ _ | refine blk_drew ?_ | refine blk_alloc ?_ _)); exact BK389.out) k_ hk_), (Kd.freshB (g := gb408) (o := .cells #[.slice Ao23 t396.length co23] 26 (0, 0)) (by (with_reducible repeat (first | refine blk_drewN ?_ _ | refine blk_drew ?_ | refine blk_alloc ?_ _)); exact BK408.out) k_ hk_), (Kd.freshB (g := gb409) (o := .cells #[.int .i64 t399, .int .i64 t400, .int .i64 t401, .int .i64 t402, .int .i64 t403, .int .i64 t404, .int .i64 t405, .string t406] 23 (0, 0)) (by (with_reducible repeat (first | refine blk_drewN ?_ _ | refine blk_drew ?_ | refine blk_alloc ?_ _)); exact BK409.out) k_ hk_), (Kd.freshB (g := gb453) (o := .cells #[.slice Ao102 x454000_4.length co102] 26 (0, 0)) (by (with_reducible repeat (first | refine blk_drewN ?_ _ | refine blk_drew ?_ | refine blk_alloc ?_ _)); exact BK453.out) k_ hk_)⟩)) (below_size (by repeat (first | (with_reducible first | exact HB.out | apply below_alloc | apply pw_below_drewN | apply below_drew1 | refine below_set ?_ GE389.out | refine below_set ?_ GE408.out | refine below_set ?_ GE409.out | refine below_set ?_ GE453.out) | exact HB.out)))); have n4_ := Aside0.mk (blk_below (g := gb389) (o := .cells #[.slice A0_0 l0_0.length c0_0] 26 (0, 0)) (by (with_reducible repeat (first | refine blk_drewN ?_ _ | refine blk_drew ?_ | refine blk_alloc ?_ _)); exact BK389.out) hb); have n5_ := Aside0.mk (blk_below (g := gb408) (o := .cells #[.slice Ao23 t396.length co23] 26 (0, 0)) (by (with_reducible repeat (first | refine blk_drewN ?_ _ | refine blk_drew ?_ | refine blk_alloc ?_ _)); exact BK408.out) hb); have n6_ := Aside0.mk (blk_below (g := gb409) (o := .cells #[.int .i64 t399, .int .i64 t400, .int .i64 t401, .int .i64 t402, .int .i64 t403, .int .i64 t404, .int .i64 t405, .string t406] 23 (0, 0)) (by (with_reducible repeat (first | refine blk_drewN ?_ _ | refine blk_drew ?_ | refine blk_alloc ?_ _)); exact BK409.out) hb); have n7_ := Aside0.mk (blk_below (g := gb453) (o := .cells #[.slice Ao102 x454000_4.length co102] 26 (0, 0)) (by (with_reducible repeat (first | refine blk_drewN ?_ _ | refine blk_drew ?_ | refine blk_alloc ?_ _)); exact BK453.out) hb); have n8_ := Aside0.mk (below_step (by repeat (first | (with_reducible first | exact HB.out | apply below_alloc | apply pw_below_drewN | apply below_drew1 | refine below_set ?_ GE389.out | refine below_set ?_ GE408.out | refine below_set ?_ GE409.out | refine below_set ?_ GE453.out) | exact HB.out)) hb); clear HO_390000; clear HO_409000; clear HO_454000; clear BK389; clear BK408; clear BK409; clear BK453; clear HB; have HO_390000 := n0_; have HO_409000 := n1_; have HO_454000 := n2_; have HO456 := n3_; have BK389 := n4_; have BK408 := n5_; have BK409 := n6_; have BK453 := n7_; have HB := n8_; clear n0_ n1_ n2_ n3_ n4_ n5_ n6_ n7_ n8_; (try clear hb); (try clear hb2); (try clear hk); (try clear hi); (try clear ho0)) | ((with_reducible refine gate_dst (N := 10) rfl ?_); (try (refine gate_guard (by rfl) ?_; dsimp only)); refine box_event ?hg (N := 10) ?hd (cs := #[.slice none 0 0]) (t := 26) ?hr ?_; (case hd => rfl); (case hg => rfl); (case hr => first | (go_simp; done) | (go_simp; rfl)); intro gb466 hg w104 hbox hb; have n0_ := Aside0.mk (Kd.V_below (Kd.V_elderB (by (with_reducible repeat (first | apply Kd.V_alloc | apply Kd.V_drewN | apply Kd.V_drew)); exact HO_390000.out) gb466 (Nat.le_of_eq hg.symm)) hb); have n1_ := Aside0.mk (Kd.V_below (Kd.V_elderB (by (with_reducible repeat (first | apply Kd.V_alloc | apply Kd.V_drewN | apply Kd.V_drew)); exact HO_409000.out) gb466 (Nat.le_of_eq hg.symm)) hb); have n2_ := Aside0.mk (Kd.V_below (Kd.V_elderB (by (with_reducible repeat (first | apply Kd.V_alloc | apply Kd.V_drewN | apply Kd.V_drew)); exact HO_454000.out) gb466 (Nat.le_of_eq hg.symm)) hb); have n3_ := Aside0.mk (Kd.V_below (Kd.V_elderB (by (with_reducible repeat (first | apply Kd.V_alloc | apply Kd.V_drewN | apply Kd.V_drew)); exact HO456.out) gb466 (Nat.le_of_eq hg.symm)) hb); have n4_ := Aside0.mk (blk_below (g := gb389) (o := .cells #[.slice A0_0 l0_0.length c0_0] 26 (0, 0)) (by (with_reducible repeat (first | refine blk_drewN ?_ _ | refine blk_drew ?_ | refine blk_alloc ?_ _)); exact BK389.out) hb); have n5_ := Aside0.mk (blk_below (g := gb408) (o := .cells #[.slice Ao23 t396.length co23] 26 (0, 0)) (by (with_reducible repeat (first | refine blk_drewN ?_ _ | refine blk_drew ?_ | refine blk_alloc ?_ _)); exact BK408.out) hb); have n6_ := Aside0.mk (blk_below (g := gb409) (o := .cells #[.int .i64 t399, .int .i64 t400, .int .i64 t401, .int .i64 t402, .int .i64 t403, .int .i64 t404, .int .i64 t405, .string t406] 23 (0, 0)) (by (with_reducible repeat (first | refine blk_drewN ?_ _ | refine blk_drew ?_ | refine blk_alloc ?_ _)); exact BK409.out) hb); have n7_ := Aside0.mk (blk_below (g := gb453) (o := .cells #[.slice Ao102 x454000_4.length co102] 26 (0, 0)) (by (with_reducible repeat (first | refine blk_drewN ?_ _ | refine blk_drew ?_ | refine blk_alloc ?_ _)); exact BK453.out) hb); have n8_ := Aside0.mk (below_step (by repeat (first | (with_reducible first | exact HB.out | apply below_alloc | apply pw_below_drewN | apply below_drew1 | refine below_set ?_ GE389.out | refine below_set ?_ GE408.out | refine below_set ?_ GE409.out | refine below_set ?_ GE453.out) | exact HB.out)) hb); have n9_ := Aside0.mk (hbox); have n10_ := Aside0.mk ((by rw [hg]; exact (below_size (by repeat (first | (with_reducible first | exact HB.out | apply below_alloc | apply pw_below_drewN | apply below_drew1 | refine below_set ?_ GE389.out | refine below_set ?_ GE408.out | refine below_set ?_ GE409.out | refine below_set ?_ GE453.out) | exact HB.out))) : w.heap.size ≤ gb466)); have n11_ := Aside0.mk ((by rw [hg]; exact (below_size (by repeat (first | (with_reducible first | exact HB.out | apply below_alloc | apply pw_below_drewN | apply below_drew1 | refine below_set ?_ GE389.out | refine below_set ?_ GE408.out | refine below_set ?_ GE409.out | refine below_set ?_ GE453.out) | exact HB.out))) : w.heap.size ≤ gb466)); have n12_ := Aside0.mk ((by rw [hg]; exact Nat.ne_of_lt (blk_lt (g := gb389) (o := .cells #[.slice A0_0 l0_0.length c0_0] 26 (0, 0)) (by (with_reducible repeat (first | refine blk_drewN ?_ _ | refine blk_drew ?_ | refine blk_alloc ?_ _)); exact BK389.out)) : gb389 ≠ gb466)); have n13_ := Aside0.mk ((by rw [hg]; exact Nat.ne_of_gt (blk_lt (g := gb389) (o := .cells #[.slice A0_0 l0_0.length c0_0] 26 (0, 0)) (by (with_reducible repeat (first | refine blk_drewN ?_ _ | refine blk_drew ?_ | refine blk_alloc ?_ _)); exact BK389.out)) : gb466 ≠ gb389)); have n14_ := Aside0.mk ((by rw [hg]; exact Nat.ne_of_lt (blk_lt (g := gb408) (o := .cells #[.slice Ao23 t396.length co23] 26 (0, 0)) (by (with_reducible repeat (first | refine blk_drewN ?_ _ | refine blk_drew ?_ | refine blk_alloc ?_ _)); exact BK408.out)) : gb408 ≠ gb466)); have n15_ := Aside0.mk ((by rw [hg]; exact Nat.ne_of_gt (blk_lt (g := gb408) (o := .cells #[.slice Ao23 t396.length co23] 26 (0, 0)) (by (with_reducible repeat (first | refine blk_drewN ?_ _ | refine blk_drew ?_ | refine blk_alloc ?_ _)); exact BK408.out)) : gb466 ≠ gb408)); have n16_ := Aside0.mk ((by rw [hg]; exact Nat.ne_of_lt (blk_lt (g := gb409) (o := .cells #[.int .i64 t399, .int .i64 t400, .int .i64 t401, .int .i64 t402, .int .i64 t403, .int .i64 t404, .int .i64 t405, .string t406] 23 (0, 0)) (by (with_reducible repeat (first | refine blk_drewN ?_ _ | refine blk_drew ?_ | refine blk_alloc ?_ _)); exact BK409.out)) : gb409 ≠ gb466)); have n17_ := Aside0.mk ((by rw [hg]; exact Nat.ne_of_gt (blk_lt (g := gb409) (o := .cells #[.int .i64 t399, .int .i64 t400, .int .i64 t401, .int .i64 t402, .int .i64 t403, .int .i64 t404, .int .i64 t405, .string t406] 23 (0, 0)) (by (with_reducible repeat (first | refine blk_drewN ?_ _ | refine blk_drew ?_ | refine blk_alloc ?_ _)); exact BK409.out)) : gb466 ≠ gb409)); have n18_ := Aside0.mk ((by rw [hg]; exact Nat.ne_of_lt (blk_lt (g := gb453) (o := .cells #[.slice Ao102 x454000_4.length co102] 26 (0, 0)) (by (with_reducible repeat (first | refine blk_drewN ?_ _ | refine blk_drew ?_ | refine blk_alloc ?_ _)); exact BK453.out)) : gb453 ≠ gb466)); have n19_ := Aside0.mk ((by rw [hg]; exact Nat.ne_of_gt (blk_lt (g := gb453) (o := .cells #[.slice Ao102 x454000_4.length co102] 26 (0, 0)) (by (with_reducible repeat (first | refine blk_drewN ?_ _ | refine blk_drew ?_ | refine blk_alloc ?_ _)); exact BK453.out)) : gb466 ≠ gb453)); clear HO_390000; clear HO_409000; clear HO_454000; clear HO456; clear BK389; clear BK408; clear BK409; clear BK453; clear HB; have HO_390000 := n0_; have HO_409000 := n1_; have HO_454000 := n2_; have HO456 := n3_; have BK389 := n4_; have BK408 := n5_; have BK409 := n6_; have BK453 := n7_; have HB := n8_; have BK466 := n9_; have GW466 := n10_; have GE466 := n11_; have NB389_466 := n12_; have NB466_389 := n13_; have NB408_466 := n14_; have NB466_408 := n15_; have NB409_466 := n16_; have NB466_409 := n17_; have NB453_466 := n18_; have NB466_453 := n19_; clear n0_ n1_ n2_ n3_ n4_ n5_ n6_ n7_ n8_ n9_ n10_ n11_ n12_ n13_ n14_ n15_ n16_ n17_ n18_ n19_; clear hb hbox hg) | ((with_reducible refine gate_dst (N := 11) rfl ?_); (try (refine gate_guard (by rfl) ?_; dsimp only)); refine box_event ?hg (N := 11) ?hd (cs := #[.int .i64 0, .int .i64 0, .int .i64 0, .int .i64 0, .int .i64 0, .int .i64 0, .int .i64 0, .string (⟨#[]⟩ : ByteArray)]) (t := 23) ?hr ?_; (case hd => rfl); (case hg => rfl); (case hr => first | (go_simp; done) | (go_simp; rfl)); intro gb467 hg w105 hbox hb; have n0_ := Aside0.mk (Kd.V_below (Kd.V_elderB (by (with_reducible repeat (first | apply Kd.V_alloc | apply Kd.V_drewN | apply Kd.V_drew)); exact HO_390000.out) gb467 (Nat.le_of_eq hg.symm)) hb); have n1_ := Aside0.mk (Kd.V_below (Kd.V_elderB (by (with_reducible repeat (first | apply Kd.V_alloc | apply Kd.V_drewN | apply Kd.V_drew)); exact HO_409000.out) gb467 (Nat.le_of_eq hg.symm)) hb); have n2_ := Aside0.mk (Kd.V_below (Kd.V_elderB (by (with_reducible repeat (first | apply Kd.V_alloc | apply Kd.V_drewN | apply Kd.V_drew)); exact HO_454000.out) gb467 (Nat.le_of_eq hg.symm)) hb); have n3_ := Aside0.mk (Kd.V_below (Kd.V_elderB (by (with_reducible repeat (first | apply Kd.V_alloc | apply Kd.V_drewN | apply Kd.V_drew)); exact HO456.out) gb467 (Nat.le_of_eq hg.symm)) hb); have n4_ := Aside0.mk (blk_below (g := gb389) (o := .cells #[.slice A0_0 l0_0.length c0_0] 26 (0, 0)) (by (with_reducible repeat (first | refine blk_drewN ?_ _ | refine blk_drew ?_ | refine blk_alloc ?_ _)); exact BK389.out) hb); have n5_ := Aside0.mk (blk_below (g := gb408) (o := .cells #[.slice Ao23 t396.length co23] 26 (0, 0)) (by (with_reducible repeat (first | refine blk_drewN ?_ _ | refine blk_drew ?_ | refine blk_alloc ?_ _)); exact BK408.out) hb); have n6_ := Aside0.mk (blk_below (g := gb409) (o := .cells #[.int .i64 t399, .int .i64 t400, .int .i64 t401, .int .i64 t402, .int .i64 t403, .int .i64 t404, .int .i64 t405, .string t406] 23 (0, 0)) (by (with_reducible repeat (first | refine blk_drewN ?_ _ | refine blk_drew ?_ | refine blk_alloc ?_ _)); exact BK409.out) hb); have n7_ := Aside0.mk (blk_below (g := gb453) (o := .cells #[.slice Ao102 x454000_4.length co102] 26 (0, 0)) (by (with_reducible repeat (first | refine blk_drewN ?_ _ | refine blk_drew ?_ | refine blk_alloc ?_ _)); exact BK453.out) hb); have n8_ := Aside0.mk (blk_below (g := gb466) (o := .cells #[.slice none 0 0] 26 (0, 0)) (by (with_reducible repeat (first | refine blk_drewN ?_ _ | refine blk_drew ?_ | refine blk_alloc ?_ _)); exact BK466.out) hb); have n9_ := Aside0.mk (below_step (by repeat (first | (with_reducible first | exact HB.out | apply below_alloc | apply pw_below_drewN | apply below_drew1 | refine below_set ?_ GE389.out | refine below_set ?_ GE408.out | refine below_set ?_ GE409.out | refine below_set ?_ GE453.out | refine below_set ?_ GE466.out) | exact HB.out)) hb); have n10_ := Aside0.mk (hbox); have n11_ := Aside0.mk ((by rw [hg]; exact (below_size (by repeat (first | (with_reducible first | exact HB.out | apply below_alloc | apply pw_below_drewN | apply below_drew1 | refine below_set ?_ GE389.out | refine below_set ?_ GE408.out | refine below_set ?_ GE409.out | refine below_set ?_ GE453.out | refine below_set ?_ GE466.out) | exact HB.out))) : w.heap.size ≤ gb467)); have n12_ := Aside0.mk ((by rw [hg]; exact (below_size (by repeat (first | (with_reducible first | exact HB.out | apply below_alloc | apply pw_below_drewN | apply below_drew1 | refine below_set ?_ GE389.out | refine below_set ?_ GE408.out | refine below_set ?_ GE409.out | refine below_set ?_ GE453.out | refine below_set ?_ GE466.out) | exact HB.out))) : w.heap.size ≤ gb467)); have n13_ := Aside0.mk ((by rw [hg]; exact Nat.ne_of_lt (blk_lt (g := gb389) (o := .cells #[.slice A0_0 l0_0.length c0_0] 26 (0, 0)) (by (with_reducible repeat (first | refine blk_drewN ?_ _ | refine blk_drew ?_ | refine blk_alloc ?_ _)); exact BK389.out)) : gb389 ≠ gb467)); have n14_ := Aside0.mk ((by rw [hg]; exact Nat.ne_of_gt (blk_lt (g := gb389) (o := .cells #[.slice A0_0 l0_0.length c0_0] 26 (0, 0)) (by (with_reducible repeat (first | refine blk_drewN ?_ _ | refine blk_drew ?_ | refine blk_alloc ?_ _)); exact BK389.out)) : gb467 ≠ gb389)); have n15_ := Aside0.mk ((by rw [hg]; exact Nat.ne_of_lt (blk_lt (g := gb408) (o := .cells #[.slice Ao23 t396.length co23] 26 (0, 0)) (by (with_reducible repeat (first | refine blk_drewN ?_ _ | refine blk_drew ?_ | refine blk_alloc ?_ _)); exact BK408.out)) : gb408 ≠ gb467)); have n16_ := Aside0.mk ((by rw [hg]; exact Nat.ne_of_gt (blk_lt (g := gb408) (o := .cells #[.slice Ao23 t396.length co23] 26 (0, 0)) (by (with_reducible repeat (first | refine blk_drewN ?_ _ | refine blk_drew ?_ | refine blk_alloc ?_ _)); exact BK408.out)) : gb467 ≠ gb408)); have n17_ := Aside0.mk ((by rw [hg]; exact Nat.ne_of_lt (blk_lt (g := gb409) (o := .cells #[.int .i64 t399, .int .i64 t400, .int .i64 t401, .int .i64 t402, .int .i64 t403, .int .i64 t404, .int .i64 t405, .string t406] 23 (0, 0)) (by (with_reducible repeat (first | refine blk_drewN ?_ _ | refine blk_drew ?_ | refine blk_alloc ?_ _)); exact BK409.out)) : gb409 ≠ gb467)); have n18_ := Aside0.mk ((by rw [hg]; exact Nat.ne_of_gt (blk_lt (g := gb409) (o := .cells #[.int .i64 t399, .int .i64 t400, .int .i64 t401, .int .i64 t402, .int .i64 t403, .int .i64 t404, .int .i64 t405, .string t406] 23 (0, 0)) (by (with_reducible repeat (first | refine blk_drewN ?_ _ | refine blk_drew ?_ | refine blk_alloc ?_ _)); exact BK409.out)) : gb467 ≠ gb409)); have n19_ := Aside0.mk ((by rw [hg]; exact Nat.ne_of_lt (blk_lt (g := gb453) (o := .cells #[.slice Ao102 x454000_4.length co102] 26 (0, 0)) (by (with_reducible repeat (first | refine blk_drewN ?_ _ | refine blk_drew ?_ | refine blk_alloc ?_ _)); exact BK453.out)) : gb453 ≠ gb467)); have n20_ := Aside0.mk ((by rw [hg]; exact Nat.ne_of_gt (blk_lt (g := gb453) (o := .cells #[.slice Ao102 x454000_4.length co102] 26 (0, 0)) (by (with_reducible repeat (first | refine blk_drewN ?_ _ | refine blk_drew ?_ | refine blk_alloc ?_ _)); exact BK453.out)) : gb467 ≠ gb453)); have n21_ := Aside0.mk ((by rw [hg]; exact Nat.ne_of_lt (blk_lt (g := gb466) (o := .cells #[.slice none 0 0] 26 (0, 0)) (by (with_reducible repeat (first | refine blk_drewN ?_ _ | refine blk_drew ?_ | refine blk_alloc ?_ _)); exact BK466.out)) : gb466 ≠ gb467)); have n22_ := Aside0.mk ((by rw [hg]; exact Nat.ne_of_gt (blk_lt (g := gb466) (o := .cells #[.slice none 0 0] 26 (0, 0)) (by (with_reducible repeat (first | refine blk_drewN ?_ _ | refine blk_drew ?_ | refine blk_alloc ?_ _)); exact BK466.out)) : gb467 ≠ gb466)); clear HO_390000; clear HO_409000; clear HO_454000; clear HO456; clear BK389; clear BK408; clear BK409; clear BK453; clear BK466; clear HB; have HO_390000 := n0_; have HO_409000 := n1_; have HO_454000 := n2_; have HO456 := n3_; have BK389 := n4_; have BK408 := n5_; have BK409 := n6_; have BK453 := n7_; have BK466 := n8_; have HB := n9_; have BK467 := n10_; have GW467 := n11_; have GE467 := n12_; have NB389_467 := n13_; have NB467_389 := n14_; have NB408_467 := n15_; have NB467_408 := n16_; have NB409_467 := n17_; have NB467_409 := n18_; have NB453_467 := n19_; have NB467_453 := n20_; have NB466_467 := n21_; have NB467_466 := n22_; clear n0_ n1_ n2_ n3_ n4_ n5_ n6_ n7_ n8_ n9_ n10_ n11_ n12_ n13_ n14_ n15_ n16_ n17_ n18_ n19_ n20_ n21_ n22_; clear hb hbox hg; obtain ⟨Ao106, co106, eo106⟩ := Kd.V_slice HO456.out; subst eo106; have hnb107 := NB466_389.out; have hnc107 := NB389_466.out; have hnb108 := NB466_408.out; have hnc108 := NB408_466.out; have hnb109 := NB466_409.out; have hnc109 := NB409_466.out; have hnb110 := NB466_453.out; have hnc110 := NB453_466.out; have hnb111 := NB466_467.out; have hnc111 := NB467_466.out; have hcz112_0 : w105.cell? ⟨gb466, 0, none⟩ = some (.slice none 0 0) := (blk_cell BK466.out 0).trans rfl; have hfz112_0 := blk_frozen BK466.out 0; have hnb113 := NB467_389.out; have hnc113 := NB389_467.out; have hnb114 := NB467_408.out; have hnc114 := NB408_467.out; have hnb115 := NB467_409.out; have hnc115 := NB409_467.out; have hnb116 := NB467_453.out; have hnc116 := NB453_467.out; have hcz117_0 : w105.cell? ⟨gb467, 0, none⟩ = some (.int .i64 0) := (blk_cell BK467.out 0).trans rfl; have hcz117_1 : w105.cell? ⟨gb467, 1, none⟩ = some (.int .i64 0) := (blk_cell BK467.out 1).trans rfl; have hcz117_2 : w105.cell? ⟨gb467, 2, none⟩ = some (.int .i64 0) := (blk_cell BK467.out 2).trans rfl; have hcz117_3 : w105.cell? ⟨gb467, 3, none⟩ = some (.int .i64 0) := (blk_cell BK467.out 3).trans rfl; have hcz117_4 : w105.cell? ⟨gb467, 4, none⟩ = some (.int .i64 0) := (blk_cell BK467.out 4).trans rfl; have hcz117_5 : w105.cell? ⟨gb467, 5, none⟩ = some (.int .i64 0) := (blk_cell BK467.out 5).trans rfl; have hcz117_6 : w105.cell? ⟨gb467, 6, none⟩ = some (.int .i64 0) := (blk_cell BK467.out 6).trans rfl; have hcz117_7 : w105.cell? ⟨gb467, 7, none⟩ = some (.string (⟨#[]⟩ : ByteArray)) := (blk_cell BK467.out 7).trans rfl; have hfz117_0 := blk_frozen BK467.out 0; have hfz117_1 := blk_frozen BK467.out 1; have hfz117_2 := blk_frozen BK467.out 2; have hfz117_3 := blk_frozen BK467.out 3; have hfz117_4 := blk_frozen BK467.out 4; have hfz117_5 := blk_frozen BK467.out 5; have hfz117_6 := blk_frozen BK467.out 6; have hfz117_7 := blk_frozen BK467.out 7))
                have n0_ : Aside0 (Kd.V k23 23 (((((((((w105.setCell ⟨gb466, 0, none⟩ (.slice Ao106 t454.length co106)).setCell ⟨gb467, 0, none⟩ (.int .i64 t457)).setCell ⟨gb467, 1, none⟩ (.int .i64 t458)).setCell ⟨gb467, 2, none⟩ (.int .i64 t459)).setCell ⟨gb467, 3, none⟩ (.int .i64 t460)).setCell ⟨gb467, 4, none⟩ (.int .i64 t461)).setCell ⟨gb467, 5, none⟩ (.int .i64 t462)).setCell ⟨gb467, 6, none⟩ (.int .i64 t463)).setCell ⟨gb467, 7, none⟩ (.string t464)) w.heap.size (fun k_ => (P0_0_ k_ ∨ w.heap.size ≤ k_) ∧ k_ ≠ gb389 ∧ k_ ≠ gb408 ∧ k_ ≠ gb409 ∧ k_ ≠ gb453 ∧ k_ ≠ gb466 ∧ k_ ≠ gb467) (.slice A0_0 l0_0.length c0_0) l0_0) := ⟨by (with_reducible repeat (first | apply Kd.V_alloc | apply Kd.V_drewN | apply Kd.V_drew)); exact Kd.V_mono (Kd.V_far (p := ⟨gb467, 7, none⟩) (Kd.V_far (p := ⟨gb467, 6, none⟩) (Kd.V_far (p := ⟨gb467, 5, none⟩) (Kd.V_far (p := ⟨gb467, 4, none⟩) (Kd.V_far (p := ⟨gb467, 3, none⟩) (Kd.V_far (p := ⟨gb467, 2, none⟩) (Kd.V_far (p := ⟨gb467, 1, none⟩) (Kd.V_far (p := ⟨gb467, 0, none⟩) (Kd.V_far (p := ⟨gb466, 0, none⟩) (Kd.V_mono (Kd.V_mono HO_390000.out (fun k_ hk => (⟨hk, hk.1.2⟩ : _ ∧ k_ ≠ gb466))) (fun k_ hk => (⟨hk, hk.1.2⟩ : _ ∧ k_ ≠ gb467))) (fun _ hk => hk.1.2) (.slice Ao106 t454.length co106)) (fun _ hk => hk.2) (.int .i64 t457)) (fun _ hk => hk.2) (.int .i64 t458)) (fun _ hk => hk.2) (.int .i64 t459)) (fun _ hk => hk.2) (.int .i64 t460)) (fun _ hk => hk.2) (.int .i64 t461)) (fun _ hk => hk.2) (.int .i64 t462)) (fun _ hk => hk.2) (.int .i64 t463)) (fun _ hk => hk.2) (.string t464)) (fun _ hk => ⟨hk.1.1.1.1.1, ⟨hk.1.1.1.1.2.1, ⟨hk.1.1.1.1.2.2.1, ⟨hk.1.1.1.1.2.2.2.1, ⟨hk.1.1.1.1.2.2.2.2, ⟨hk.1.1.1.2, hk.1.1.2⟩⟩⟩⟩⟩⟩)⟩
                have n1_ : Aside0 (Kd.V k23 23 (((((((((w105.setCell ⟨gb466, 0, none⟩ (.slice Ao106 t454.length co106)).setCell ⟨gb467, 0, none⟩ (.int .i64 t457)).setCell ⟨gb467, 1, none⟩ (.int .i64 t458)).setCell ⟨gb467, 2, none⟩ (.int .i64 t459)).setCell ⟨gb467, 3, none⟩ (.int .i64 t460)).setCell ⟨gb467, 4, none⟩ (.int .i64 t461)).setCell ⟨gb467, 5, none⟩ (.int .i64 t462)).setCell ⟨gb467, 6, none⟩ (.int .i64 t463)).setCell ⟨gb467, 7, none⟩ (.string t464)) w.heap.size (fun k_ => (P0_0_ k_ ∨ w.heap.size ≤ k_) ∧ k_ ≠ gb389 ∧ k_ ≠ gb408 ∧ k_ ≠ gb409 ∧ k_ ≠ gb453 ∧ k_ ≠ gb466 ∧ k_ ≠ gb467) (.slice Ao23 t396.length co23) t396) := ⟨by (with_reducible repeat (first | apply Kd.V_alloc | apply Kd.V_drewN | apply Kd.V_drew)); exact Kd.V_mono (Kd.V_far (p := ⟨gb467, 7, none⟩) (Kd.V_far (p := ⟨gb467, 6, none⟩) (Kd.V_far (p := ⟨gb467, 5, none⟩) (Kd.V_far (p := ⟨gb467, 4, none⟩) (Kd.V_far (p := ⟨gb467, 3, none⟩) (Kd.V_far (p := ⟨gb467, 2, none⟩) (Kd.V_far (p := ⟨gb467, 1, none⟩) (Kd.V_far (p := ⟨gb467, 0, none⟩) (Kd.V_far (p := ⟨gb466, 0, none⟩) (Kd.V_mono (Kd.V_mono HO_409000.out (fun k_ hk => (⟨hk, hk.1.2⟩ : _ ∧ k_ ≠ gb466))) (fun k_ hk => (⟨hk, hk.1.2⟩ : _ ∧ k_ ≠ gb467))) (fun _ hk => hk.1.2) (.slice Ao106 t454.length co106)) (fun _ hk => hk.2) (.int .i64 t457)) (fun _ hk => hk.2) (.int .i64 t458)) (fun _ hk => hk.2) (.int .i64 t459)) (fun _ hk => hk.2) (.int .i64 t460)) (fun _ hk => hk.2) (.int .i64 t461)) (fun _ hk => hk.2) (.int .i64 t462)) (fun _ hk => hk.2) (.int .i64 t463)) (fun _ hk => hk.2) (.string t464)) (fun _ hk => ⟨hk.1.1.1.1.1, ⟨hk.1.1.1.1.2.1, ⟨hk.1.1.1.1.2.2.1, ⟨hk.1.1.1.1.2.2.2.1, ⟨hk.1.1.1.1.2.2.2.2, ⟨hk.1.1.1.2, hk.1.1.2⟩⟩⟩⟩⟩⟩)⟩
                have n2_ : Aside0 (Kd.V k23 23 (((((((((w105.setCell ⟨gb466, 0, none⟩ (.slice Ao106 t454.length co106)).setCell ⟨gb467, 0, none⟩ (.int .i64 t457)).setCell ⟨gb467, 1, none⟩ (.int .i64 t458)).setCell ⟨gb467, 2, none⟩ (.int .i64 t459)).setCell ⟨gb467, 3, none⟩ (.int .i64 t460)).setCell ⟨gb467, 4, none⟩ (.int .i64 t461)).setCell ⟨gb467, 5, none⟩ (.int .i64 t462)).setCell ⟨gb467, 6, none⟩ (.int .i64 t463)).setCell ⟨gb467, 7, none⟩ (.string t464)) w.heap.size (fun k_ => (P0_0_ k_ ∨ w.heap.size ≤ k_) ∧ k_ ≠ gb389 ∧ k_ ≠ gb408 ∧ k_ ≠ gb409 ∧ k_ ≠ gb453 ∧ k_ ≠ gb466 ∧ k_ ≠ gb467) (.slice Ao102 x454000_4.length co102) x454000_4) := ⟨by (with_reducible repeat (first | apply Kd.V_alloc | apply Kd.V_drewN | apply Kd.V_drew)); exact Kd.V_mono (Kd.V_far (p := ⟨gb467, 7, none⟩) (Kd.V_far (p := ⟨gb467, 6, none⟩) (Kd.V_far (p := ⟨gb467, 5, none⟩) (Kd.V_far (p := ⟨gb467, 4, none⟩) (Kd.V_far (p := ⟨gb467, 3, none⟩) (Kd.V_far (p := ⟨gb467, 2, none⟩) (Kd.V_far (p := ⟨gb467, 1, none⟩) (Kd.V_far (p := ⟨gb467, 0, none⟩) (Kd.V_far (p := ⟨gb466, 0, none⟩) (Kd.V_mono (Kd.V_mono HO_454000.out (fun k_ hk => (⟨hk, hk.1.2⟩ : _ ∧ k_ ≠ gb466))) (fun k_ hk => (⟨hk, hk.1.2⟩ : _ ∧ k_ ≠ gb467))) (fun _ hk => hk.1.2) (.slice Ao106 t454.length co106)) (fun _ hk => hk.2) (.int .i64 t457)) (fun _ hk => hk.2) (.int .i64 t458)) (fun _ hk => hk.2) (.int .i64 t459)) (fun _ hk => hk.2) (.int .i64 t460)) (fun _ hk => hk.2) (.int .i64 t461)) (fun _ hk => hk.2) (.int .i64 t462)) (fun _ hk => hk.2) (.int .i64 t463)) (fun _ hk => hk.2) (.string t464)) (fun _ hk => ⟨hk.1.1.1.1.1, ⟨hk.1.1.1.1.2.1, ⟨hk.1.1.1.1.2.2.1, ⟨hk.1.1.1.1.2.2.2.1, ⟨hk.1.1.1.1.2.2.2.2, ⟨hk.1.1.1.2, hk.1.1.2⟩⟩⟩⟩⟩⟩)⟩
                have n3_ : Aside0 (Kd.V k23 23 (((((((((w105.setCell ⟨gb466, 0, none⟩ (.slice Ao106 t454.length co106)).setCell ⟨gb467, 0, none⟩ (.int .i64 t457)).setCell ⟨gb467, 1, none⟩ (.int .i64 t458)).setCell ⟨gb467, 2, none⟩ (.int .i64 t459)).setCell ⟨gb467, 3, none⟩ (.int .i64 t460)).setCell ⟨gb467, 4, none⟩ (.int .i64 t461)).setCell ⟨gb467, 5, none⟩ (.int .i64 t462)).setCell ⟨gb467, 6, none⟩ (.int .i64 t463)).setCell ⟨gb467, 7, none⟩ (.string t464)) w.heap.size (fun k_ => (P0_0_ k_ ∨ w.heap.size ≤ k_) ∧ k_ ≠ gb389 ∧ k_ ≠ gb408 ∧ k_ ≠ gb409 ∧ k_ ≠ gb453 ∧ k_ ≠ gb466 ∧ k_ ≠ gb467) (.slice Ao106 t454.length co106) t454) := ⟨by (with_reducible repeat (first | apply Kd.V_alloc | apply Kd.V_drewN | apply Kd.V_drew)); exact Kd.V_mono (Kd.V_far (p := ⟨gb467, 7, none⟩) (Kd.V_far (p := ⟨gb467, 6, none⟩) (Kd.V_far (p := ⟨gb467, 5, none⟩) (Kd.V_far (p := ⟨gb467, 4, none⟩) (Kd.V_far (p := ⟨gb467, 3, none⟩) (Kd.V_far (p := ⟨gb467, 2, none⟩) (Kd.V_far (p := ⟨gb467, 1, none⟩) (Kd.V_far (p := ⟨gb467, 0, none⟩) (Kd.V_far (p := ⟨gb466, 0, none⟩) (Kd.V_mono (Kd.V_mono HO456.out (fun k_ hk => (⟨hk, hk.1.2⟩ : _ ∧ k_ ≠ gb466))) (fun k_ hk => (⟨hk, hk.1.2⟩ : _ ∧ k_ ≠ gb467))) (fun _ hk => hk.1.2) (.slice Ao106 t454.length co106)) (fun _ hk => hk.2) (.int .i64 t457)) (fun _ hk => hk.2) (.int .i64 t458)) (fun _ hk => hk.2) (.int .i64 t459)) (fun _ hk => hk.2) (.int .i64 t460)) (fun _ hk => hk.2) (.int .i64 t461)) (fun _ hk => hk.2) (.int .i64 t462)) (fun _ hk => hk.2) (.int .i64 t463)) (fun _ hk => hk.2) (.string t464)) (fun _ hk => ⟨hk.1.1.1.1.1, ⟨hk.1.1.1.1.2.1, ⟨hk.1.1.1.1.2.2.1, ⟨hk.1.1.1.1.2.2.2.1, ⟨hk.1.1.1.1.2.2.2.2, ⟨hk.1.1.1.2, hk.1.1.2⟩⟩⟩⟩⟩⟩)⟩
                have n4_ : Aside0 ((((((((((w105.setCell ⟨gb466, 0, none⟩ (.slice Ao106 t454.length co106)).setCell ⟨gb467, 0, none⟩ (.int .i64 t457)).setCell ⟨gb467, 1, none⟩ (.int .i64 t458)).setCell ⟨gb467, 2, none⟩ (.int .i64 t459)).setCell ⟨gb467, 3, none⟩ (.int .i64 t460)).setCell ⟨gb467, 4, none⟩ (.int .i64 t461)).setCell ⟨gb467, 5, none⟩ (.int .i64 t462)).setCell ⟨gb467, 6, none⟩ (.int .i64 t463)).setCell ⟨gb467, 7, none⟩ (.string t464)).heap[gb389]? = some (.cells #[.slice A0_0 l0_0.length c0_0] 26 (0, 0))) := ⟨by (with_reducible repeat (first | refine blk_drewN ?_ _ | refine blk_drew ?_ | refine blk_alloc ?_ _)); refine blk_far ?_ NB389_467.out _; (with_reducible repeat (first | refine blk_drewN ?_ _ | refine blk_drew ?_ | refine blk_alloc ?_ _)); refine blk_far ?_ NB389_467.out _; (with_reducible repeat (first | refine blk_drewN ?_ _ | refine blk_drew ?_ | refine blk_alloc ?_ _)); refine blk_far ?_ NB389_467.out _; (with_reducible repeat (first | refine blk_drewN ?_ _ | refine blk_drew ?_ | refine blk_alloc ?_ _)); refine blk_far ?_ NB389_467.out _; (with_reducible repeat (first | refine blk_drewN ?_ _ | refine blk_drew ?_ | refine blk_alloc ?_ _)); refine blk_far ?_ NB389_467.out _; (with_reducible repeat (first | refine blk_drewN ?_ _ | refine blk_drew ?_ | refine blk_alloc ?_ _)); refine blk_far ?_ NB389_467.out _; (with_reducible repeat (first | refine blk_drewN ?_ _ | refine blk_drew ?_ | refine blk_alloc ?_ _)); refine blk_far ?_ NB389_467.out _; (with_reducible repeat (first | refine blk_drewN ?_ _ | refine blk_drew ?_ | refine blk_alloc ?_ _)); refine blk_far ?_ NB389_467.out _; (with_reducible repeat (first | refine blk_drewN ?_ _ | refine blk_drew ?_ | refine blk_alloc ?_ _)); refine blk_far ?_ NB389_466.out _; (with_reducible repeat (first | refine blk_drewN ?_ _ | refine blk_drew ?_ | refine blk_alloc ?_ _)); exact BK389.out⟩
                have n5_ : Aside0 ((((((((((w105.setCell ⟨gb466, 0, none⟩ (.slice Ao106 t454.length co106)).setCell ⟨gb467, 0, none⟩ (.int .i64 t457)).setCell ⟨gb467, 1, none⟩ (.int .i64 t458)).setCell ⟨gb467, 2, none⟩ (.int .i64 t459)).setCell ⟨gb467, 3, none⟩ (.int .i64 t460)).setCell ⟨gb467, 4, none⟩ (.int .i64 t461)).setCell ⟨gb467, 5, none⟩ (.int .i64 t462)).setCell ⟨gb467, 6, none⟩ (.int .i64 t463)).setCell ⟨gb467, 7, none⟩ (.string t464)).heap[gb408]? = some (.cells #[.slice Ao23 t396.length co23] 26 (0, 0))) := ⟨by (with_reducible repeat (first | refine blk_drewN ?_ _ | refine blk_drew ?_ | refine blk_alloc ?_ _)); refine blk_far ?_ NB408_467.out _; (with_reducible repeat (first | refine blk_drewN ?_ _ | refine blk_drew ?_ | refine blk_alloc ?_ _)); refine blk_far ?_ NB408_467.out _; (with_reducible repeat (first | refine blk_drewN ?_ _ | refine blk_drew ?_ | refine blk_alloc ?_ _)); refine blk_far ?_ NB408_467.out _; (with_reducible repeat (first | refine blk_drewN ?_ _ | refine blk_drew ?_ | refine blk_alloc ?_ _)); refine blk_far ?_ NB408_467.out _; (with_reducible repeat (first | refine blk_drewN ?_ _ | refine blk_drew ?_ | refine blk_alloc ?_ _)); refine blk_far ?_ NB408_467.out _; (with_reducible repeat (first | refine blk_drewN ?_ _ | refine blk_drew ?_ | refine blk_alloc ?_ _)); refine blk_far ?_ NB408_467.out _; (with_reducible repeat (first | refine blk_drewN ?_ _ | refine blk_drew ?_ | refine blk_alloc ?_ _)); refine blk_far ?_ NB408_467.out _; (with_reducible repeat (first | refine blk_drewN ?_ _ | refine blk_drew ?_ | refine blk_alloc ?_ _)); refine blk_far ?_ NB408_467.out _; (with_reducible repeat (first | refine blk_drewN ?_ _ | refine blk_drew ?_ | refine blk_alloc ?_ _)); refine blk_far ?_ NB408_466.out _; (with_reducible repeat (first | refine blk_drewN ?_ _ | refine blk_drew ?_ | refine blk_alloc ?_ _)); exact BK408.out⟩
                have n6_ : Aside0 ((((((((((w105.setCell ⟨gb466, 0, none⟩ (.slice Ao106 t454.length co106)).setCell ⟨gb467, 0, none⟩ (.int .i64 t457)).setCell ⟨gb467, 1, none⟩ (.int .i64 t458)).setCell ⟨gb467, 2, none⟩ (.int .i64 t459)).setCell ⟨gb467, 3, none⟩ (.int .i64 t460)).setCell ⟨gb467, 4, none⟩ (.int .i64 t461)).setCell ⟨gb467, 5, none⟩ (.int .i64 t462)).setCell ⟨gb467, 6, none⟩ (.int .i64 t463)).setCell ⟨gb467, 7, none⟩ (.string t464)).heap[gb409]? = some (.cells #[.int .i64 t399, .int .i64 t400, .int .i64 t401, .int .i64 t402, .int .i64 t403, .int .i64 t404, .int .i64 t405, .string t406] 23 (0, 0))) := ⟨by (with_reducible repeat (first | refine blk_drewN ?_ _ | refine blk_drew ?_ | refine blk_alloc ?_ _)); refine blk_far ?_ NB409_467.out _; (with_reducible repeat (first | refine blk_drewN ?_ _ | refine blk_drew ?_ | refine blk_alloc ?_ _)); refine blk_far ?_ NB409_467.out _; (with_reducible repeat (first | refine blk_drewN ?_ _ | refine blk_drew ?_ | refine blk_alloc ?_ _)); refine blk_far ?_ NB409_467.out _; (with_reducible repeat (first | refine blk_drewN ?_ _ | refine blk_drew ?_ | refine blk_alloc ?_ _)); refine blk_far ?_ NB409_467.out _; (with_reducible repeat (first | refine blk_drewN ?_ _ | refine blk_drew ?_ | refine blk_alloc ?_ _)); refine blk_far ?_ NB409_467.out _; (with_reducible repeat (first | refine blk_drewN ?_ _ | refine blk_drew ?_ | refine blk_alloc ?_ _)); refine blk_far ?_ NB409_467.out _; (with_reducible repeat (first | refine blk_drewN ?_ _ | refine blk_drew ?_ | refine blk_alloc ?_ _)); refine blk_far ?_ NB409_467.out _; (with_reducible repeat (first | refine blk_drewN ?_ _ | refine blk_drew ?_ | refine blk_alloc ?_ _)); refine blk_far ?_ NB409_467.out _; (with_reducible repeat (first | refine blk_drewN ?_ _ | refine blk_drew ?_ | refine blk_alloc ?_ _)); refine blk_far ?_ NB409_466.out _; (with_reducible repeat (first | refine blk_drewN ?_ _ | refine blk_drew ?_ | refine blk_alloc ?_ _)); exact BK409.out⟩
                have n7_ : Aside0 ((((((((((w105.setCell ⟨gb466, 0, none⟩ (.slice Ao106 t454.length co106)).setCell ⟨gb467, 0, none⟩ (.int .i64 t457)).setCell ⟨gb467, 1, none⟩ (.int .i64 t458)).setCell ⟨gb467, 2, none⟩ (.int .i64 t459)).setCell ⟨gb467, 3, none⟩ (.int .i64 t460)).setCell ⟨gb467, 4, none⟩ (.int .i64 t461)).setCell ⟨gb467, 5, none⟩ (.int .i64 t462)).setCell ⟨gb467, 6, none⟩ (.int .i64 t463)).setCell ⟨gb467, 7, none⟩ (.string t464)).heap[gb453]? = some (.cells #[.slice Ao102 x454000_4.length co102] 26 (0, 0))) := ⟨by (with_reducible repeat (first | refine blk_drewN ?_ _ | refine blk_drew ?_ | refine blk_alloc ?_ _)); refine blk_far ?_ NB453_467.out _; (with_reducible repeat (first | refine blk_drewN ?_ _ | refine blk_drew ?_ | refine blk_alloc ?_ _)); refine blk_far ?_ NB453_467.out _; (with_reducible repeat (first | refine blk_drewN ?_ _ | refine blk_drew ?_ | refine blk_alloc ?_ _)); refine blk_far ?_ NB453_467.out _; (with_reducible repeat (first | refine blk_drewN ?_ _ | refine blk_drew ?_ | refine blk_alloc ?_ _)); refine blk_far ?_ NB453_467.out _; (with_reducible repeat (first | refine blk_drewN ?_ _ | refine blk_drew ?_ | refine blk_alloc ?_ _)); refine blk_far ?_ NB453_467.out _; (with_reducible repeat (first | refine blk_drewN ?_ _ | refine blk_drew ?_ | refine blk_alloc ?_ _)); refine blk_far ?_ NB453_467.out _; (with_reducible repeat (first | refine blk_drewN ?_ _ | refine blk_drew ?_ | refine blk_alloc ?_ _)); refine blk_far ?_ NB453_467.out _; (with_reducible repeat (first | refine blk_drewN ?_ _ | refine blk_drew ?_ | refine blk_alloc ?_ _)); refine blk_far ?_ NB453_467.out _; (with_reducible repeat (first | refine blk_drewN ?_ _ | refine blk_drew ?_ | refine blk_alloc ?_ _)); refine blk_far ?_ NB453_466.out _; (with_reducible repeat (first | refine blk_drewN ?_ _ | refine blk_drew ?_ | refine blk_alloc ?_ _)); exact BK453.out⟩
                have n8_ : Aside0 ((((((((((w105.setCell ⟨gb466, 0, none⟩ (.slice Ao106 t454.length co106)).setCell ⟨gb467, 0, none⟩ (.int .i64 t457)).setCell ⟨gb467, 1, none⟩ (.int .i64 t458)).setCell ⟨gb467, 2, none⟩ (.int .i64 t459)).setCell ⟨gb467, 3, none⟩ (.int .i64 t460)).setCell ⟨gb467, 4, none⟩ (.int .i64 t461)).setCell ⟨gb467, 5, none⟩ (.int .i64 t462)).setCell ⟨gb467, 6, none⟩ (.int .i64 t463)).setCell ⟨gb467, 7, none⟩ (.string t464)).heap[gb466]? = some (.cells #[.slice Ao106 t454.length co106] 26 (0, 0))) := ⟨by (with_reducible repeat (first | refine blk_drewN ?_ _ | refine blk_drew ?_ | refine blk_alloc ?_ _)); refine blk_far ?_ NB466_467.out _; (with_reducible repeat (first | refine blk_drewN ?_ _ | refine blk_drew ?_ | refine blk_alloc ?_ _)); refine blk_far ?_ NB466_467.out _; (with_reducible repeat (first | refine blk_drewN ?_ _ | refine blk_drew ?_ | refine blk_alloc ?_ _)); refine blk_far ?_ NB466_467.out _; (with_reducible repeat (first | refine blk_drewN ?_ _ | refine blk_drew ?_ | refine blk_alloc ?_ _)); refine blk_far ?_ NB466_467.out _; (with_reducible repeat (first | refine blk_drewN ?_ _ | refine blk_drew ?_ | refine blk_alloc ?_ _)); refine blk_far ?_ NB466_467.out _; (with_reducible repeat (first | refine blk_drewN ?_ _ | refine blk_drew ?_ | refine blk_alloc ?_ _)); refine blk_far ?_ NB466_467.out _; (with_reducible repeat (first | refine blk_drewN ?_ _ | refine blk_drew ?_ | refine blk_alloc ?_ _)); refine blk_far ?_ NB466_467.out _; (with_reducible repeat (first | refine blk_drewN ?_ _ | refine blk_drew ?_ | refine blk_alloc ?_ _)); refine blk_far ?_ NB466_467.out _; (with_reducible repeat (first | refine blk_drewN ?_ _ | refine blk_drew ?_ | refine blk_alloc ?_ _)); refine blk_put (cs := #[.slice none 0 0]) ?_ 0 _ rfl; (with_reducible repeat (first | refine blk_drewN ?_ _ | refine blk_drew ?_ | refine blk_alloc ?_ _)); exact BK466.out⟩
                have n9_ : Aside0 ((((((((((w105.setCell ⟨gb466, 0, none⟩ (.slice Ao106 t454.length co106)).setCell ⟨gb467, 0, none⟩ (.int .i64 t457)).setCell ⟨gb467, 1, none⟩ (.int .i64 t458)).setCell ⟨gb467, 2, none⟩ (.int .i64 t459)).setCell ⟨gb467, 3, none⟩ (.int .i64 t460)).setCell ⟨gb467, 4, none⟩ (.int .i64 t461)).setCell ⟨gb467, 5, none⟩ (.int .i64 t462)).setCell ⟨gb467, 6, none⟩ (.int .i64 t463)).setCell ⟨gb467, 7, none⟩ (.string t464)).heap[gb467]? = some (.cells #[.int .i64 t457, .int .i64 t458, .int .i64 t459, .int .i64 t460, .int .i64 t461, .int .i64 t462, .int .i64 t463, .string t464] 23 (0, 0))) := ⟨by (with_reducible repeat (first | refine blk_drewN ?_ _ | refine blk_drew ?_ | refine blk_alloc ?_ _)); refine blk_put (cs := #[.int .i64 t457, .int .i64 t458, .int .i64 t459, .int .i64 t460, .int .i64 t461, .int .i64 t462, .int .i64 t463, .string (⟨#[]⟩ : ByteArray)]) ?_ 7 _ rfl; (with_reducible repeat (first | refine blk_drewN ?_ _ | refine blk_drew ?_ | refine blk_alloc ?_ _)); refine blk_put (cs := #[.int .i64 t457, .int .i64 t458, .int .i64 t459, .int .i64 t460, .int .i64 t461, .int .i64 t462, .int .i64 0, .string (⟨#[]⟩ : ByteArray)]) ?_ 6 _ rfl; (with_reducible repeat (first | refine blk_drewN ?_ _ | refine blk_drew ?_ | refine blk_alloc ?_ _)); refine blk_put (cs := #[.int .i64 t457, .int .i64 t458, .int .i64 t459, .int .i64 t460, .int .i64 t461, .int .i64 0, .int .i64 0, .string (⟨#[]⟩ : ByteArray)]) ?_ 5 _ rfl; (with_reducible repeat (first | refine blk_drewN ?_ _ | refine blk_drew ?_ | refine blk_alloc ?_ _)); refine blk_put (cs := #[.int .i64 t457, .int .i64 t458, .int .i64 t459, .int .i64 t460, .int .i64 0, .int .i64 0, .int .i64 0, .string (⟨#[]⟩ : ByteArray)]) ?_ 4 _ rfl; (with_reducible repeat (first | refine blk_drewN ?_ _ | refine blk_drew ?_ | refine blk_alloc ?_ _)); refine blk_put (cs := #[.int .i64 t457, .int .i64 t458, .int .i64 t459, .int .i64 0, .int .i64 0, .int .i64 0, .int .i64 0, .string (⟨#[]⟩ : ByteArray)]) ?_ 3 _ rfl; (with_reducible repeat (first | refine blk_drewN ?_ _ | refine blk_drew ?_ | refine blk_alloc ?_ _)); refine blk_put (cs := #[.int .i64 t457, .int .i64 t458, .int .i64 0, .int .i64 0, .int .i64 0, .int .i64 0, .int .i64 0, .string (⟨#[]⟩ : ByteArray)]) ?_ 2 _ rfl; (with_reducible repeat (first | refine blk_drewN ?_ _ | refine blk_drew ?_ | refine blk_alloc ?_ _)); refine blk_put (cs := #[.int .i64 t457, .int .i64 0, .int .i64 0, .int .i64 0, .int .i64 0, .int .i64 0, .int .i64 0, .string (⟨#[]⟩ : ByteArray)]) ?_ 1 _ rfl; (with_reducible repeat (first | refine blk_drewN ?_ _ | refine blk_drew ?_ | refine blk_alloc ?_ _)); refine blk_put (cs := #[.int .i64 0, .int .i64 0, .int .i64 0, .int .i64 0, .int .i64 0, .int .i64 0, .int .i64 0, .string (⟨#[]⟩ : ByteArray)]) ?_ 0 _ rfl; (with_reducible repeat (first | refine blk_drewN ?_ _ | refine blk_drew ?_ | refine blk_alloc ?_ _)); refine blk_far ?_ NB467_466.out _; (with_reducible repeat (first | refine blk_drewN ?_ _ | refine blk_drew ?_ | refine blk_alloc ?_ _)); exact BK467.out⟩
                have n10_ : Aside0 (Below w.heap.size w (((((((((w105.setCell ⟨gb466, 0, none⟩ (.slice Ao106 t454.length co106)).setCell ⟨gb467, 0, none⟩ (.int .i64 t457)).setCell ⟨gb467, 1, none⟩ (.int .i64 t458)).setCell ⟨gb467, 2, none⟩ (.int .i64 t459)).setCell ⟨gb467, 3, none⟩ (.int .i64 t460)).setCell ⟨gb467, 4, none⟩ (.int .i64 t461)).setCell ⟨gb467, 5, none⟩ (.int .i64 t462)).setCell ⟨gb467, 6, none⟩ (.int .i64 t463)).setCell ⟨gb467, 7, none⟩ (.string t464))) := ⟨by repeat (first | (with_reducible first | exact HB.out | apply below_alloc | apply pw_below_drewN | apply below_drew1 | refine below_set ?_ GE389.out | refine below_set ?_ GE408.out | refine below_set ?_ GE409.out | refine below_set ?_ GE453.out | refine below_set ?_ GE466.out | refine below_set ?_ GE467.out) | exact HB.out)⟩
                (try clear HO_390000)
                (try clear HO_409000)
                (try clear HO_454000)
                (try clear HO456)
                (try clear BK389)
                (try clear BK408)
                (try clear BK409)
                (try clear BK453)
                (try clear BK466)
                (try clear BK467)
                (try clear HB)
                generalize (((((((((w105.setCell ⟨gb466, 0, none⟩ (.slice Ao106 t454.length co106)).setCell ⟨gb467, 0, none⟩ (.int .i64 t457)).setCell ⟨gb467, 1, none⟩ (.int .i64 t458)).setCell ⟨gb467, 2, none⟩ (.int .i64 t459)).setCell ⟨gb467, 3, none⟩ (.int .i64 t460)).setCell ⟨gb467, 4, none⟩ (.int .i64 t461)).setCell ⟨gb467, 5, none⟩ (.int .i64 t462)).setCell ⟨gb467, 6, none⟩ (.int .i64 t463)).setCell ⟨gb467, 7, none⟩ (.string t464)) = w118 at n0_ n1_ n2_ n3_ n4_ n5_ n6_ n7_ n8_ n9_ n10_ ⊢
                have HO_390000 := n0_
                have HO_409000 := n1_
                have HO_454000 := n2_
                have HO456 := n3_
                have BK389 := n4_
                have BK408 := n5_
                have BK409 := n6_
                have BK453 := n7_
                have BK466 := n8_
                have BK467 := n9_
                have HB := n10_
                clear n0_ n1_ n2_ n3_ n4_ n5_ n6_ n7_ n8_ n9_ n10_
                have n0_ := Aside0.mk (Kd.V_drew HO_390000.out)
                have n1_ := Aside0.mk (Kd.V_drew HO_409000.out)
                have n2_ := Aside0.mk (Kd.V_drew HO_454000.out)
                have n3_ := Aside0.mk (Kd.V_drew HO456.out)
                have n4_ := Aside0.mk (blk_drew BK389.out)
                have n5_ := Aside0.mk (blk_drew BK408.out)
                have n6_ := Aside0.mk (blk_drew BK409.out)
                have n7_ := Aside0.mk (blk_drew BK453.out)
                have n8_ := Aside0.mk (blk_drew BK466.out)
                have n9_ := Aside0.mk (blk_drew BK467.out)
                have n10_ := Aside0.mk (below_drew1 HB.out)
                clear HO_390000
                clear HO_409000
                clear HO_454000
                clear HO456
                clear BK389
                clear BK408
                clear BK409
                clear BK453
                clear BK466
                clear BK467
                clear HB
                have HO_390000 := n0_
                have HO_409000 := n1_
                have HO_454000 := n2_
                have HO456 := n3_
                have BK389 := n4_
                have BK408 := n5_
                have BK409 := n6_
                have BK453 := n7_
                have BK466 := n8_
                have BK467 := n9_
                have HB := n10_
                clear n0_ n1_ n2_ n3_ n4_ n5_ n6_ n7_ n8_ n9_ n10_
                have p468 : 0 ≤ (x9_4 : Int) := of_decide_eq_true (by first | (with_reducible assumption) | assumption)
                have q468 : x9_4 < (l0_0.length : Int) := of_decide_eq_true (by first | (with_reducible assumption) | assumption)
                obtain ⟨ad468, e468, hx468_0, hx468_1, hx468_2, hx468_3, hx468_4, hx468_5, hx468_6, hx468_7⟩ := at_T23 (Kd.V_reads' HO_390000.out).2.2 x9_4 p468 q468
                cases e468
                replace p468 := eq_true p468
                replace q468 := eq_true q468
                refine start_ (n := 11) (S := fun w' => w'.cell? ⟨gb467, 0, none⟩ = some (.int .i64 t457) ∧ w'.cell? ⟨gb467, 1, none⟩ = some (.int .i64 t458) ∧ w'.cell? ⟨gb467, 2, none⟩ = some (.int .i64 t459) ∧ w'.cell? ⟨gb467, 3, none⟩ = some (.int .i64 t460) ∧ w'.cell? ⟨gb467, 4, none⟩ = some (.int .i64 t461) ∧ w'.cell? ⟨gb467, 5, none⟩ = some (.int .i64 t462) ∧ w'.cell? ⟨gb467, 6, none⟩ = some (.int .i64 t463) ∧ w'.cell? ⟨gb467, 7, none⟩ = some (.string t464) ∧ w'.cell? ⟨gb389, 0, none⟩ = some (.slice (some ad468) l0_0.length c0_0) ∧ w'.cell? (ad468.add ((x9_4).toNat * 8)) = some (.int .i64 ((rd_T23 l0_0 x9_4).f0)) ∧ w'.cell? ⟨(ad468.add ((x9_4).toNat * 8)).block, (ad468.add ((x9_4).toNat * 8)).off + 1, none⟩ = some (.int .i64 ((rd_T23 l0_0 x9_4).f1)) ∧ w'.cell? ⟨(ad468.add ((x9_4).toNat * 8)).block, (ad468.add ((x9_4).toNat * 8)).off + 2, none⟩ = some (.int .i64 ((rd_T23 l0_0 x9_4).f2)) ∧ w'.cell? ⟨(ad468.add ((x9_4).toNat * 8)).block, (ad468.add ((x9_4).toNat * 8)).off + 3, none⟩ = some (.int .i64 ((rd_T23 l0_0 x9_4).f3)) ∧ w'.cell? ⟨(ad468.add ((x9_4).toNat * 8)).block, (ad468.add ((x9_4).toNat * 8)).off + 4, none⟩ = some (.int .i64 ((rd_T23 l0_0 x9_4).f4)) ∧ w'.cell? ⟨(ad468.add ((x9_4).toNat * 8)).block, (ad468.add ((x9_4).toNat * 8)).off + 5, none⟩ = some (.int .i64 ((rd_T23 l0_0 x9_4).f5)) ∧ w'.cell? ⟨(ad468.add ((x9_4).toNat * 8)).block, (ad468.add ((x9_4).toNat * 8)).off + 6, none⟩ = some (.int .i64 ((rd_T23 l0_0 x9_4).f6)) ∧ w'.cell? ⟨(ad468.add ((x9_4).toNat * 8)).block, (ad468.add ((x9_4).toNat * 8)).off + 7, none⟩ = some (.string ((rd_T23 l0_0 x9_4).f7))) (ds := []) #[false, false, false, false, false, false, false, false, false, false, false] (by kernel_rfl) rfl rfl ⟨(blk_cell BK467.out 0).trans rfl, (blk_cell BK467.out 1).trans rfl, (blk_cell BK467.out 2).trans rfl, (blk_cell BK467.out 3).trans rfl, (blk_cell BK467.out 4).trans rfl, (blk_cell BK467.out 5).trans rfl, (blk_cell BK467.out 6).trans rfl, (blk_cell BK467.out 7).trans rfl, (blk_cell BK389.out 0).trans rfl, hx468_0, hx468_1, hx468_2, hx468_3, hx468_4, hx468_5, hx468_6, hx468_7⟩ (fun hHeld => ?_); refine with_tabW haywainlaw22_NetGives.tab13 haywainlaw22_NetGives.bits13 (fun HT_ HW_ => ?_)
                generalize w118.drew = w119 at HO_390000 HO_409000 HO_454000 HO456 BK389 BK408 BK409 BK453 BK466 BK467 HB hx468_0 hx468_1 hx468_2 hx468_3 hx468_4 hx468_5 hx468_6 hx468_7 hHeld ⊢
                refine pure_ (i := 0) (N := some 118) (v := ?_) (a' := ?_) #[true, false, false, false, false, false, false, false, false, false, false] rfl rfl (any_of HT_.out (by kernel_rfl)) (fun _ _ _ h => h) (Or.inl ⟨by rfl, ?_⟩) ?_ ?_
                rotate_left
                ·intro w'
                 go_simp
                 with_reducible rfl
                rotate_left
                ·simp only [Act.put, List.setIfInBounds_toArray, List.set_cons_zero, List.set_cons_succ, i64_w, i32_w]
                 rfl
                refine pure_ (i := 1) (N := some 119) (v := ?_) (a' := ?_) #[true, true, false, false, false, false, false, false, false, false, false] rfl rfl (any_of HT_.out (by kernel_rfl)) (fun _ _ _ h => h) (Or.inl ⟨by rfl, ?_⟩) ?_ ?_
                rotate_left
                ·intro w'
                 go_simp
                 with_reducible rfl
                rotate_left
                ·simp only [Act.put, List.setIfInBounds_toArray, List.set_cons_zero, List.set_cons_succ, i64_w, i32_w]
                 rfl
                refine pure_ (i := 2) (N := some 120) (v := ?_) (a' := ?_) #[true, true, true, false, false, false, false, false, false, false, false] rfl rfl (any_of HT_.out (by kernel_rfl)) (fun _ _ _ h => h) (Or.inl ⟨by rfl, ?_⟩) ?_ ?_
                rotate_left
                ·intro w'
                 go_simp
                 with_reducible rfl
                rotate_left
                ·simp only [Act.put, List.setIfInBounds_toArray, List.set_cons_zero, List.set_cons_succ, i64_w, i32_w]
                 rfl
                refine pure_ (i := 4) (N := some 122) (v := ?_) (a' := ?_) #[true, true, true, false, true, false, false, false, false, false, false] rfl rfl (any_of HT_.out (by kernel_rfl)) (fun _ _ _ h => h) (Or.inl ⟨by rfl, ?_⟩) ?_ ?_
                rotate_left
                ·intro w'
                 go_simp
                 with_reducible rfl
                rotate_left
                ·simp only [Act.put, List.setIfInBounds_toArray, List.set_cons_zero, List.set_cons_succ, i64_w, i32_w]
                 rfl
                refine pure_ (i := 6) (N := some 124) (v := ?_) (a' := ?_) #[true, true, true, false, true, false, true, false, false, false, false] rfl rfl (any_of HT_.out (by kernel_rfl)) (fun _ _ _ h => h) (Or.inl ⟨by rfl, ?_⟩) ?_ ?_
                rotate_left
                ·intro w'
                 go_simp
                 with_reducible rfl
                rotate_left
                ·simp only [Act.put, List.setIfInBounds_toArray, List.set_cons_zero, List.set_cons_succ, i64_w, i32_w]
                 rfl
                refine take_ (i := 3) (N := some 121) (v := ?_) (a' := ?_) #[true, true, true, true, true, false, true, false, false, false, false] rfl rfl (take_ofW HT_.out HW_.out (by kernel_rfl)) (fun _ _ _ h => h) (Or.inl ⟨by rfl, ?_⟩) hHeld ?_ ?_
                rotate_left
                ·rintro w' ⟨s0, s1, s2, s3, s4, s5, s6, s7, s8, s9, s10, s11, s12, s13, s14, s15, s16⟩
                 go_simp
                 with_reducible rfl
                rotate_left
                ·simp only [Act.put, List.setIfInBounds_toArray, List.set_cons_zero, List.set_cons_succ, i64_w, i32_w]
                 rfl
                refine take_ (i := 5) (N := some 123) (v := ?_) (a' := ?_) #[true, true, true, true, true, true, true, false, false, false, false] rfl rfl (take_ofW HT_.out HW_.out (by kernel_rfl)) (fun _ _ _ h => h) (Or.inl ⟨by rfl, ?_⟩) hHeld ?_ ?_
                rotate_left
                ·rintro w' ⟨s0, s1, s2, s3, s4, s5, s6, s7, s8, s9, s10, s11, s12, s13, s14, s15, s16⟩
                 go_simp
                 with_reducible rfl
                rotate_left
                ·simp only [Act.put, List.setIfInBounds_toArray, List.set_cons_zero, List.set_cons_succ, i64_w, i32_w]
                 rfl
                refine pure_ (i := 7) (N := some 125) (v := ?_) (a' := ?_) #[true, true, true, true, true, true, true, true, false, false, false] rfl rfl (any_of HT_.out (by kernel_rfl)) (fun _ _ _ h => h) (Or.inl ⟨by rfl, ?_⟩) ?_ ?_
                rotate_left
                ·intro w'
                 go_simp
                 with_reducible rfl
                rotate_left
                ·simp only [Act.put, List.setIfInBounds_toArray, List.set_cons_zero, List.set_cons_succ, i64_w, i32_w]
                 rfl
                refine take_ (i := 8) (N := some 126) (v := ?_) (a' := ?_) #[true, true, true, true, true, true, true, true, true, false, false] rfl rfl (take_ofW HT_.out HW_.out (by kernel_rfl)) (fun _ _ _ h => h) (Or.inl ⟨by rfl, ?_⟩) hHeld ?_ ?_
                rotate_left
                ·rintro w' ⟨s0, s1, s2, s3, s4, s5, s6, s7, s8, s9, s10, s11, s12, s13, s14, s15, s16⟩
                 go_simp
                 with_reducible rfl
                rotate_left
                ·simp only [Act.put, List.setIfInBounds_toArray, List.set_cons_zero, List.set_cons_succ, i64_w, i32_w]
                 rfl
                refine pure_ (i := 9) (N := some 127) (v := ?_) (a' := ?_) #[true, true, true, true, true, true, true, true, true, true, false] rfl rfl (any_of HT_.out (by kernel_rfl)) (fun _ _ _ h => h) (Or.inl ⟨by rfl, ?_⟩) ?_ ?_
                rotate_left
                ·intro w'
                 go_simp
                 with_reducible rfl
                rotate_left
                ·simp only [Act.put, List.setIfInBounds_toArray, List.set_cons_zero, List.set_cons_succ, i64_w, i32_w]
                 rfl
                refine pure_ (i := 10) (N := some 128) (v := ?_) (a' := ?_) #[true, true, true, true, true, true, true, true, true, true, true] rfl rfl (any_of HT_.out (by kernel_rfl)) (fun _ _ _ h => h) (Or.inl ⟨by rfl, ?_⟩) ?_ ?_
                rotate_left
                ·intro w'
                 go_simp
                 with_reducible rfl
                rotate_left
                ·simp only [Act.put, List.setIfInBounds_toArray, List.set_cons_zero, List.set_cons_succ, i64_w, i32_w]
                 rfl
                refine done_ (done_of HT_.out (by kernel_rfl)) ?_
                have hcz120_0 : w119.cell? ⟨gb466, 0, none⟩ = some (.slice Ao106 t454.length co106) := (blk_cell BK466.out 0).trans rfl
                have hfz120_0 := blk_frozen BK466.out 0
                have hcz121_0 : w119.cell? ⟨gb453, 0, none⟩ = some (.slice Ao102 x454000_4.length co102) := (blk_cell BK453.out 0).trans rfl
                have hfz121_0 := blk_frozen BK453.out 0
                try go_wp2
                go_roundg k4
                case measure => have := HJ2.out; have := HJ17.out; have := HJ45.out; have := HK4.out; omega
                case rel => exact ⟨(wrap64 (x9_4 + 1)), (t454), (.slice Ao106 t454.length co106), (by first | rfl | (simp; done) | (simp [*]; done)), H', ⟨by have := HJ2.out; have := HJ17.out; have := HJ45.out; have := HK4.out; omega⟩, ⟨by (with_reducible repeat (first | apply Kd.V_alloc | apply Kd.V_drewN | apply Kd.V_drew)); exact Kd.V_mono (Kd.V_far (p := ⟨gb453, 0, none⟩) (Kd.V_mono HO_390000.out (fun k_ hk => (⟨hk, hk.2.2.2.2.1⟩ : _ ∧ k_ ≠ gb453))) (fun _ hk => hk.2) (.slice Ao106 t454.length co106)) (fun _ hk => ⟨hk.1.1, ⟨hk.1.2.1, ⟨hk.1.2.2.1, ⟨hk.1.2.2.2.1, hk.1.2.2.2.2.1⟩⟩⟩⟩)⟩, ⟨by (with_reducible repeat (first | apply Kd.V_alloc | apply Kd.V_drewN | apply Kd.V_drew)); exact Kd.V_mono (Kd.V_far (p := ⟨gb453, 0, none⟩) (Kd.V_mono HO_409000.out (fun k_ hk => (⟨hk, hk.2.2.2.2.1⟩ : _ ∧ k_ ≠ gb453))) (fun _ hk => hk.2) (.slice Ao106 t454.length co106)) (fun _ hk => ⟨hk.1.1, ⟨hk.1.2.1, ⟨hk.1.2.2.1, ⟨hk.1.2.2.2.1, hk.1.2.2.2.2.1⟩⟩⟩⟩)⟩, ⟨by (with_reducible repeat (first | apply Kd.V_alloc | apply Kd.V_drewN | apply Kd.V_drew)); exact Kd.V_mono (Kd.V_far (p := ⟨gb453, 0, none⟩) (Kd.V_mono HO456.out (fun k_ hk => (⟨hk, hk.2.2.2.2.1⟩ : _ ∧ k_ ≠ gb453))) (fun _ hk => hk.2) (.slice Ao106 t454.length co106)) (fun _ hk => ⟨hk.1.1, ⟨hk.1.2.1, ⟨hk.1.2.2.1, ⟨hk.1.2.2.2.1, hk.1.2.2.2.2.1⟩⟩⟩⟩)⟩, ⟨by (with_reducible repeat (first | refine blk_drewN ?_ _ | refine blk_drew ?_ | refine blk_alloc ?_ _)); refine blk_far ?_ NB389_453.out _; (with_reducible repeat (first | refine blk_drewN ?_ _ | refine blk_drew ?_ | refine blk_alloc ?_ _)); exact BK389.out⟩, ⟨by (with_reducible repeat (first | refine blk_drewN ?_ _ | refine blk_drew ?_ | refine blk_alloc ?_ _)); refine blk_far ?_ NB408_453.out _; (with_reducible repeat (first | refine blk_drewN ?_ _ | refine blk_drew ?_ | refine blk_alloc ?_ _)); exact BK408.out⟩, ⟨by (with_reducible repeat (first | refine blk_drewN ?_ _ | refine blk_drew ?_ | refine blk_alloc ?_ _)); refine blk_far ?_ NB409_453.out _; (with_reducible repeat (first | refine blk_drewN ?_ _ | refine blk_drew ?_ | refine blk_alloc ?_ _)); exact BK409.out⟩, ⟨by (with_reducible repeat (first | refine blk_drewN ?_ _ | refine blk_drew ?_ | refine blk_alloc ?_ _)); refine blk_put (cs := #[.slice Ao102 x454000_4.length co102]) ?_ 0 _ rfl; (with_reducible repeat (first | refine blk_drewN ?_ _ | refine blk_drew ?_ | refine blk_alloc ?_ _)); exact BK453.out⟩, ⟨by repeat (first | (with_reducible first | exact HB.out | apply below_alloc | apply pw_below_drewN | apply below_drew1 | refine below_set ?_ GE389.out | refine below_set ?_ GE408.out | refine below_set ?_ GE409.out | refine below_set ?_ GE453.out | refine below_set ?_ GE466.out | refine below_set ?_ GE467.out) | exact HB.out)⟩⟩
              ·rw [if_neg c93] at H
               exact absurd H (by simp)
             ·rw [if_neg c92] at H
              exact absurd H (by simp)
            ·rw [if_neg c90] at H
             have c90b0 : decide (x9_4 < (l0_0.length : Int)) = false := decide_eq_false c90
             clear c90
             by_cases c122 : (x454000_4.length : Int) = 0
             ·rw [if_pos c122] at H
              have c122b0 : ((x454000_4.length : Int) == 0) = true := beq_iff_eq.mpr c122
              have c122b1 : ((x454000_4.length : Int) != 0) = false := bne_eq_false_iff_eq.mpr c122
              clear c122
              replace H := Option.bind_eq_some_iff.mp H
              obtain ⟨t469, A1230, H⟩ := H
              replace H : (some t469) = some r := H
              have A123 := Aside0.mk A1230
              clear A1230
              obtain rfl := Option.some.inj H
              have hnb124 := NB389_408.out
              have hnc124 := NB408_389.out
              have hnb125 := NB389_409.out
              have hnc125 := NB409_389.out
              have hnb126 := NB389_453.out
              have hnc126 := NB453_389.out
              have hcz127_0 : wr.cell? ⟨gb389, 0, none⟩ = some (.slice A0_0 l0_0.length c0_0) := (blk_cell BK389.out 0).trans rfl
              have hfz127_0 := blk_frozen BK389.out 0
              have hnb128 := NB453_408.out
              have hnc128 := NB408_453.out
              have hnb129 := NB453_409.out
              have hnc129 := NB409_453.out
              have hcz130_0 : wr.cell? ⟨gb453, 0, none⟩ = some (u454000) := (blk_cell BK453.out 0).trans rfl
              have hfz130_0 := blk_frozen BK453.out 0
              obtain ⟨Ao131, co131, eo131⟩ := Kd.V_slice HO_454000.out
              subst eo131
              go_wp2_with (first | (go_at_call 9; (with_reducible refine (haywainlaw22_knows.calls k4  t469 _ A123.out).mono ?_); rintro e w132 ⟨rfl, hb⟩; have n0_ := Aside0.mk (Kd.V_below (by (with_reducible repeat (first | apply Kd.V_alloc | apply Kd.V_drewN | apply Kd.V_drew)); exact HO_390000.out) hb); have n1_ := Aside0.mk (Kd.V_below (by (with_reducible repeat (first | apply Kd.V_alloc | apply Kd.V_drewN | apply Kd.V_drew)); exact HO_409000.out) hb); have n2_ := Aside0.mk (Kd.V_below (by (with_reducible repeat (first | apply Kd.V_alloc | apply Kd.V_drewN | apply Kd.V_drew)); exact HO_454000.out) hb); have n3_ := Aside0.mk (blk_below (g := gb389) (o := .cells #[.slice A0_0 l0_0.length c0_0] 26 (0, 0)) (by (with_reducible repeat (first | refine blk_drewN ?_ _ | refine blk_drew ?_ | refine blk_alloc ?_ _)); exact BK389.out) hb); have n4_ := Aside0.mk (blk_below (g := gb408) (o := .cells #[.slice Ao23 t396.length co23] 26 (0, 0)) (by (with_reducible repeat (first | refine blk_drewN ?_ _ | refine blk_drew ?_ | refine blk_alloc ?_ _)); exact BK408.out) hb); have n5_ := Aside0.mk (blk_below (g := gb409) (o := .cells #[.int .i64 t399, .int .i64 t400, .int .i64 t401, .int .i64 t402, .int .i64 t403, .int .i64 t404, .int .i64 t405, .string t406] 23 (0, 0)) (by (with_reducible repeat (first | refine blk_drewN ?_ _ | refine blk_drew ?_ | refine blk_alloc ?_ _)); exact BK409.out) hb); have n6_ := Aside0.mk (blk_below (g := gb453) (o := .cells #[.slice Ao131 x454000_4.length co131] 26 (0, 0)) (by (with_reducible repeat (first | refine blk_drewN ?_ _ | refine blk_drew ?_ | refine blk_alloc ?_ _)); exact BK453.out) hb); have n7_ := Aside0.mk (below_step (by repeat (first | (with_reducible first | exact HB.out | apply below_alloc | apply pw_below_drewN | apply below_drew1 | refine below_set ?_ GE389.out | refine below_set ?_ GE408.out | refine below_set ?_ GE409.out | refine below_set ?_ GE453.out) | exact HB.out)) hb); clear HO_390000; clear HO_409000; clear HO_454000; clear BK389; clear BK408; clear BK409; clear BK453; clear HB; have HO_390000 := n0_; have HO_409000 := n1_; have HO_454000 := n2_; have BK389 := n3_; have BK408 := n4_; have BK409 := n5_; have BK453 := n6_; have HB := n7_; clear n0_ n1_ n2_ n3_ n4_ n5_ n6_ n7_; (try clear hb); (try clear hb2); (try clear hk); (try clear hi)))
              go_ret
              exact ⟨by first | rfl | (simp [errW_none, errW_some] <;> rfl) | (simp [*, errW_none, errW_some] <;> rfl), by repeat (first | (with_reducible first | exact HB.out | apply below_alloc | apply pw_below_drewN | apply below_drew1 | refine below_set ?_ GE389.out | refine below_set ?_ GE408.out | refine below_set ?_ GE409.out | refine below_set ?_ GE453.out) | exact HB.out)⟩
             ·rw [if_neg c122] at H
              exact absurd H (by simp)

def okT23_NetGives (x : S23) : Prop := ((Lit.int .i64 x.f0).wf = true) ∧ ((Lit.int .i64 x.f1).wf = true) ∧ ((Lit.int .i64 x.f2).wf = true) ∧ ((Lit.int .i64 x.f3).wf = true) ∧ ((Lit.int .i64 x.f4).wf = true) ∧ ((Lit.int .i64 x.f5).wf = true) ∧ ((Lit.int .i64 x.f6).wf = true) ∧ (x.f7.size ≤ 140737488351232)
def okT26_NetGives (x : S26) : Prop := ((x.f0.length ≤ maxLen ∧ x.f0.length * 72 ≤ 140737488351232 ∧ ∀ a ∈ x.f0, okT23_NetGives a))
/-- THE ONE PURE STATEMENT of haywainlaw22_NetGives: yours. -/
def haywainlaw22_NetGives.Pure : Prop := ∀ (l0_0 : List (S23)) (a1 : Int), (l0_0.length ≤ maxLen ∧ l0_0.length * 72 ≤ 140737488351232 ∧ ∀ a ∈ l0_0, okT23_NetGives a) → (Lit.int .i64 a1).wf = true → ∃ k, haywainlaw22_NetGives.f k l0_0 a1 = some true

end Go.Proofs.Ytodjglekfamaaaa.PNet
