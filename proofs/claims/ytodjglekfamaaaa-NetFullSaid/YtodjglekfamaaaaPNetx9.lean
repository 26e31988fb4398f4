-- Printed for this claim by a turned copy of the print (wip/tools/patch.py); a text of this session, not of print.sh.
import Derived.Test.YtodjglekfamaaaaPNetx0
import Derived.Test.YtodjglekfamaaaaPNetx3
import Derived.Test.YtodjglekfamaaaaPNetx4
import Derived.Test.YtodjglekfamaaaaPNetx5
import Derived.Test.YtodjglekfamaaaaPNetx6
namespace Go.Proofs.Ytodjglekfamaaaa.PNet
open Go.RowKit Go.Proofs.YtodjglekfamaaaaW.PrintWords Go.Proofs.YtodjglekfamaaaaW.PrintLast Go.Proofs.YtodjglekfamaaaaW.PrintMore
attribute [local go_sem] max2_int min2_int max_two min_two max_three min_three max_four min_four   -- for this text's walks alone
set_option linter.unusedVariables false
set_option linter.unusedSimpArgs false

/-! ### haywainlaw22_NetFull: function 6 -/
mutual
def haywainlaw22_NetFull.j0 : Nat → List (S23) → Bool → List (S23) → Option (Bool)
 | 0, _, _, _ => none
 | k + 1, x1, x18, x286000 => if x18 = true then ((haywainlaw22_knows.f k).bind fun t288 => (some t288)) else ((haywainlaw22_As.f k x286000).bind fun t289 => ((haywainref22_Good.f k t289).bind fun t292 => ((net_Send.f k x286000 x1).bind fun bt295 => (haywainlaw22_NetFull.l0 k x1 (t292.length : Int) bt295.2 0 0 bt295.1))))
def haywainlaw22_NetFull.l0 : Nat → List (S23) → Int → Int → Int → Int → List (S23) → Option (Bool)
 | 0, _, _, _, _, _, _ => none
 | k + 1, x1, x5, x7, x8, x9, x300000 => if x9 < (x1.length : Int) then (if 0 ≤ x9 then (if x9 ≤ (wrap64 (x9 + 1)) then (if (wrap64 (x9 + 1)) ≤ (x1.length : Int) then ((haywainlaw22_As.f k ((x1.take ((wrap64 (x9 + 1)) : Int).toNat).drop (x9 : Int).toNat)).bind fun t304 => (if 0 < (t304.length : Int) then ((haywainref22_Fair.f k ((rd_T31 t304 0).f0) ((rd_T31 t304 0).f1) ((rd_T31 t304 0).f2) ((rd_T31 t304 0).f3) ((rd_T31 t304 0).f4) ((rd_T31 t304 0).f5) ((rd_T31 t304 0).f6) ((rd_T31 t304 0).f7)).bind fun t308 => (if t308 = true then (haywainlaw22_NetFull.l0 k x1 x5 x7 (wrap64 (x8 + 1)) (wrap64 (x9 + 1)) x300000) else (haywainlaw22_NetFull.l0 k x1 x5 x7 x8 (wrap64 (x9 + 1)) x300000))) else (none))) else (none)) else (none)) else (none)) else (if x8 > (wrap64 (400 - x5)) then (haywainlaw22_NetFull.j2 k x5 x7 (wrap64 (400 - x5)) x300000) else (haywainlaw22_NetFull.j2 k x5 x7 x8 x300000))
def haywainlaw22_NetFull.j2 : Nat → Int → Int → Int → List (S23) → Option (Bool)
 | 0, _, _, _, _ => none
 | k + 1, x5, x7, x8, x300000 => (net_Twice.f k x300000 0).bind fun bt309 => (if x7 = x8 then (if (x300000.length : Int) = (wrap64 (x5 + x7)) then ((net_Right.f k x300000).bind fun t314 => (if t314 = true then ((net_Right.f k bt309.1).bind fun t315 => (if t315 = true then (if ((bt309.2 == 3) == ((x300000.length : Int) == 400)) = true then ((haywainlaw22_knows.f k).bind fun t316 => (some t316)) else (none)) else (none))) else (none))) else (none)) else (none))
end
def haywainlaw22_NetFull.f (k : Nat) (l0_0 : List (S23)) (l1 : List (S23)) : Option (Bool) := (haywainlaw22_great.f k l0_0).bind fun t286 => (if t286 = true then (haywainlaw22_NetFull.j0 k l1 true l0_0) else ((haywainlaw22_great.f k l1).bind fun t287 => (haywainlaw22_NetFull.j0 k l1 t287 l0_0)))
theorem haywainlaw22_NetFull.mono_l : ∀ k, (∀ y0 y1 y2, LeO (haywainlaw22_NetFull.j0 k y0 y1 y2) (haywainlaw22_NetFull.j0 (k + 1) y0 y1 y2)) ∧ (∀ y0 y1 y2 y3 y4 y5, LeO (haywainlaw22_NetFull.l0 k y0 y1 y2 y3 y4 y5) (haywainlaw22_NetFull.l0 (k + 1) y0 y1 y2 y3 y4 y5)) ∧ (∀ y0 y1 y2 y3, LeO (haywainlaw22_NetFull.j2 k y0 y1 y2 y3) (haywainlaw22_NetFull.j2 (k + 1) y0 y1 y2 y3))
 | 0 => ⟨fun _ _ _ r h => by simp [haywainlaw22_NetFull.j0] at h, fun _ _ _ _ _ _ r h => by simp [haywainlaw22_NetFull.l0] at h, fun _ _ _ _ r h => by simp [haywainlaw22_NetFull.j2] at h⟩
 | k + 1 => by
  obtain ⟨ih0, ih1, ih2⟩ := haywainlaw22_NetFull.mono_l k
  refine ⟨?_, ?_, ?_⟩
  ·intro y0 y1 y2
   unfold haywainlaw22_NetFull.j0
   repeat' first
   | (with_reducible exact ih0 _ _ _)
   | (with_reducible exact ih1 _ _ _ _ _ _)
   | (with_reducible exact ih2 _ _ _ _)
   | (with_reducible exact haywainlaw22_As.mono _ _)
   | (with_reducible exact haywainlaw22_great.mono _ _)
   | (with_reducible exact haywainlaw22_knows.mono _)
   | (with_reducible exact haywainref22_Fair.mono _ _ _ _ _ _ _ _ _)
   | (with_reducible exact haywainref22_Good.mono _ _)
   | (with_reducible exact net_Right.mono _ _)
   | (with_reducible exact net_Send.mono _ _ _)
   | (with_reducible exact net_Twice.mono _ _ _)
   | (with_reducible exact LeO.refl _)
   | (with_reducible exact LeO.none _)
   | (with_reducible refine LeO.ite ?_ ?_)
   | (with_reducible refine LeO.bind ?_ (fun _ => ?_))
   | exact ih0 _ _ _
   | exact ih1 _ _ _ _ _ _
   | exact ih2 _ _ _ _
   | exact haywainlaw22_As.mono _ _
   | exact haywainlaw22_great.mono _ _
   | exact haywainlaw22_knows.mono _
   | exact haywainref22_Fair.mono _ _ _ _ _ _ _ _ _
   | exact haywainref22_Good.mono _ _
   | exact net_Right.mono _ _
   | exact net_Send.mono _ _ _
   | exact net_Twice.mono _ _ _
   | exact LeO.none _
   | refine LeO.ite ?_ ?_
   | refine LeO.bind ?_ (fun _ => ?_)
  ·intro y0 y1 y2 y3 y4 y5
   unfold haywainlaw22_NetFull.l0
   repeat' first
   | (with_reducible exact ih0 _ _ _)
   | (with_reducible exact ih1 _ _ _ _ _ _)
   | (with_reducible exact ih2 _ _ _ _)
   | (with_reducible exact haywainlaw22_As.mono _ _)
   | (with_reducible exact haywainlaw22_great.mono _ _)
   | (with_reducible exact haywainlaw22_knows.mono _)
   | (with_reducible exact haywainref22_Fair.mono _ _ _ _ _ _ _ _ _)
   | (with_reducible exact haywainref22_Good.mono _ _)
   | (with_reducible exact net_Right.mono _ _)
   | (with_reducible exact net_Send.mono _ _ _)
   | (with_reducible exact net_Twice.mono _ _ _)
   | (with_reducible exact LeO.refl _)
   | (with_reducible exact LeO.none _)
   | (with_reducible refine LeO.ite ?_ ?_)
   | (with_reducible refine LeO.bind ?_ (fun _ => ?_))
   | exact ih0 _ _ _
   | exact ih1 _ _ _ _ _ _
   | exact ih2 _ _ _ _
   | exact haywainlaw22_As.mono _ _
   | exact haywainlaw22_great.mono _ _
   | exact haywainlaw22_knows.mono _
   | exact haywainref22_Fair.mono _ _ _ _ _ _ _ _ _
   | exact haywainref22_Good.mono _ _
   | exact net_Right.mono _ _
   | exact net_Send.mono _ _ _
   | exact net_Twice.mono _ _ _
   | exact LeO.none _
   | refine LeO.ite ?_ ?_
   | refine LeO.bind ?_ (fun _ => ?_)
  ·intro y0 y1 y2 y3
   unfold haywainlaw22_NetFull.j2
   repeat' first
   | (with_reducible exact ih0 _ _ _)
   | (with_reducible exact ih1 _ _ _ _ _ _)
   | (with_reducible exact ih2 _ _ _ _)
   | (with_reducible exact haywainlaw22_As.mono _ _)
   | (with_reducible exact haywainlaw22_great.mono _ _)
   | (with_reducible exact haywainlaw22_knows.mono _)
   | (with_reducible exact haywainref22_Fair.mono _ _ _ _ _ _ _ _ _)
   | (with_reducible exact haywainref22_Good.mono _ _)
   | (with_reducible exact net_Right.mono _ _)
   | (with_reducible exact net_Send.mono _ _ _)
   | (with_reducible exact net_Twice.mono _ _ _)
   | (with_reducible exact LeO.refl _)
   | (with_reducible exact LeO.none _)
   | (with_reducible refine LeO.ite ?_ ?_)
   | (with_reducible refine LeO.bind ?_ (fun _ => ?_))
   | exact ih0 _ _ _
   | exact ih1 _ _ _ _ _ _
   | exact ih2 _ _ _ _
   | exact haywainlaw22_As.mono _ _
   | exact haywainlaw22_great.mono _ _
   | exact haywainlaw22_knows.mono _
   | exact haywainref22_Fair.mono _ _ _ _ _ _ _ _ _
   | exact haywainref22_Good.mono _ _
   | exact net_Right.mono _ _
   | exact net_Send.mono _ _ _
   | exact net_Twice.mono _ _ _
   | exact LeO.none _
   | refine LeO.ite ?_ ?_
   | refine LeO.bind ?_ (fun _ => ?_)
theorem haywainlaw22_NetFull.mono : ∀ a0 a1 k, LeO (haywainlaw22_NetFull.f k a0 a1) (haywainlaw22_NetFull.f (k + 1) a0 a1) := by
 intro a0 a1 k
 obtain ⟨ih0, ih1, ih2⟩ := haywainlaw22_NetFull.mono_l k
 unfold haywainlaw22_NetFull.f
 repeat' first
   | (with_reducible exact ih0 _ _ _)
   | (with_reducible exact ih1 _ _ _ _ _ _)
   | (with_reducible exact ih2 _ _ _ _)
   | (with_reducible exact haywainlaw22_As.mono _ _)
   | (with_reducible exact haywainlaw22_great.mono _ _)
   | (with_reducible exact haywainlaw22_knows.mono _)
   | (with_reducible exact haywainref22_Fair.mono _ _ _ _ _ _ _ _ _)
   | (with_reducible exact haywainref22_Good.mono _ _)
   | (with_reducible exact net_Right.mono _ _)
   | (with_reducible exact net_Send.mono _ _ _)
   | (with_reducible exact net_Twice.mono _ _ _)
   | (with_reducible exact LeO.refl _)
   | (with_reducible exact LeO.none _)
   | (with_reducible refine LeO.ite ?_ ?_)
   | (with_reducible refine LeO.bind ?_ (fun _ => ?_))
   | exact ih0 _ _ _
   | exact ih1 _ _ _ _ _ _
   | exact ih2 _ _ _ _
   | exact haywainlaw22_As.mono _ _
   | exact haywainlaw22_great.mono _ _
   | exact haywainlaw22_knows.mono _
   | exact haywainref22_Fair.mono _ _ _ _ _ _ _ _ _
   | exact haywainref22_Good.mono _ _
   | exact net_Right.mono _ _
   | exact net_Send.mono _ _ _
   | exact net_Twice.mono _ _ _
   | exact LeO.none _
   | refine LeO.ite ?_ ?_
   | refine LeO.bind ?_ (fun _ => ?_)
set_option maxHeartbeats 8000000 in
set_option maxRecDepth 100000 in
theorem haywainlaw22_NetFull.calls (k : Nat) (A0_0 : Option Addr) (c0_0 : Nat) (l0_0 : List (S23)) (A1 : Option Addr) (c1 : Nat) (l1 : List (S23)) (r : Bool) (w : World) (hr0_0 : Kd.C k23 w A0_0 l0_0.length l0_0) (hc0_0 : l0_0.length ≤ c0_0) (hr1 : Kd.C k23 w A1 l1.length l1) (hc1 : l1.length ≤ c1) (h : haywainlaw22_NetFull.f k l0_0 l1 = some r) :
  Calls Try.prog 6 #[.agg #[.slice A0_0 l0_0.length c0_0], .slice A1 l1.length c1] w fun e w' => e = .returned (.bool r) ∧ Below w.heap.size w w' := by
 have hu26 := Try.underlying26
 have hu31 := Try.underlying31
 have HR0_0 := Aside0.mk hr0_0
 have HC0_0 := Aside0.mk hc0_0
 clear hr0_0 hc0_0
 have HR1 := Aside0.mk hr1
 have HC1 := Aside0.mk hc1
 clear hr1 hc1
 have HB := Aside0.mk (Below.refl w.heap.size w)
 have H : ((haywainlaw22_great.f k l0_0).bind fun t286 => (if t286 = true then (haywainlaw22_NetFull.j0 k l1 true l0_0) else ((haywainlaw22_great.f k l1).bind fun t287 => (haywainlaw22_NetFull.j0 k l1 t287 l0_0)))) = some r := h
 clear h
 have HC3 := Aside0.mk H
 clear H
 go_enter Try.func6, Try.ntmps6
 go_upto_region 1 with (first | ((with_reducible refine gate_dst (N := 2) rfl ?_); (try (refine gate_guard (by rfl) ?_; dsimp only)); refine box_event ?hg (N := 2) ?hd (cs := #[.slice A0_0 l0_0.length c0_0]) (t := 26) ?hr ?_; (case hd => rfl); (case hg => rfl); (case hr => first | (go_simp; done) | (go_simp; rfl)); intro gb285 hg w4 hbox hb; have n0_ := Aside0.mk (below_step (by repeat (first | (with_reducible first | exact HB.out | apply below_alloc | apply pw_below_drewN | apply below_drew1) | exact HB.out)) hb); have n1_ := Aside0.mk (hbox); have n2_ := Aside0.mk ((by rw [hg]; exact (below_size (by repeat (first | (with_reducible first | exact HB.out | apply below_alloc | apply pw_below_drewN | apply below_drew1) | exact HB.out))) : w.heap.size ≤ gb285)); have n3_ := Aside0.mk ((by rw [hg]; exact (below_size (by repeat (first | (with_reducible first | exact HB.out | apply below_alloc | apply pw_below_drewN | apply below_drew1) | exact HB.out))) : w.heap.size ≤ gb285)); clear HB; have HB := n0_; have BK285 := n1_; have GW285 := n2_; have GE285 := n3_; clear n0_ n1_ n2_ n3_; clear hb hbox hg))
 (try simp only [Act.put, List.setIfInBounds_toArray, List.set_cons_zero, List.set_cons_succ])
 go_cut [18] (fun v18 wc => ∃ (kq : Nat) (x18_2 : Bool), v18 = .bool x18_2 ∧ Aside0 (haywainlaw22_NetFull.j0 kq l1 x18_2 l0_0 = some r) ∧ Aside0 (kq ≤ k) ∧ Aside0 (wc.heap[gb285]? = some (.cells #[(.slice A0_0 l0_0.length c0_0)] 26 (0, 0))) ∧ Aside0 (Below w.heap.size w wc))
 case first =>
  have H := HC3.out
  clear HC3
  replace H := Option.bind_eq_some_iff.mp H
  obtain ⟨t286, A50, H⟩ := H
  replace H : (if t286 = true then (haywainlaw22_NetFull.j0 k l1 true l0_0) else ((haywainlaw22_great.f k l1).bind fun t287 => (haywainlaw22_NetFull.j0 k l1 t287 l0_0))) = some r := H
  have A5 := Aside0.mk A50
  clear A50
  by_cases c6 : t286 = true
  ·subst c6
   have H1 : (haywainlaw22_NetFull.j0 k l1 true l0_0) = some r := by rw [if_pos rfl] at H; exact H
   clear H
   have H := H1
   clear H1
   have H' := Aside0.mk H
   clear H
   have hcz7_0 : w4.cell? ⟨gb285, 0, none⟩ = some (.slice A0_0 l0_0.length c0_0) := (blk_cell BK285.out 0).trans rfl
   have hfz7_0 := blk_frozen BK285.out 0
   go_wp2_with (first | ((with_reducible refine gate_callee (f := 8) rfl ?_); refine goesL_ (some 14) rfl rfl Try.func8 (by kernel_rfl) rfl #[.slice A0_0 l0_0.length c0_0] rfl (by (try simp only [List.map_toArray, List.map_cons, List.map_nil]); first | done | rfl | (simp only [List.length_drop, List.length_take]; rfl)) ?_; (with_reducible refine (haywainlaw22_great.calls k _ _ l0_0 true _ ?side1 ?side2 A5.out).mono ?_); (case side1 => repeat (first | exact (Kd.C_below HR0_0.out HB.out) | (with_reducible refine Kd.C_alloc ?_ _) | (with_reducible refine Kd.C_drewN ?_ _) | (with_reducible refine Kd.C_drew ?_))); (case side2 => exact HC0_0.out); rintro e w' ⟨rfl, ⟨nd, rfl⟩⟩; refine ⟨_, rfl, ?_⟩))
   go_meet
   case rel => exact ⟨_, (true), (by first | rfl | (simp; done) | (simp [*]; done)), H', ⟨by first | omega | exact Nat.le_refl _⟩, ⟨by (with_reducible repeat (first | refine blk_drewN ?_ _ | refine blk_drew ?_ | refine blk_alloc ?_ _)); exact BK285.out⟩, ⟨by repeat (first | (with_reducible first | exact HB.out | apply below_alloc | apply pw_below_drewN | apply below_drew1 | refine below_set ?_ GE285.out) | exact HB.out)⟩⟩
  ·replace c6 := Bool.eq_false_iff.mpr c6
   subst c6
   have H1 : ((haywainlaw22_great.f k l1).bind fun t287 => (haywainlaw22_NetFull.j0 k l1 t287 l0_0)) = some r := by rw [if_neg (show ¬ (false = true) by decide)] at H; exact H
   clear H
   have H := H1
   clear H1
   replace H := Option.bind_eq_some_iff.mp H
   obtain ⟨t287, A80, H⟩ := H
   replace H : (haywainlaw22_NetFull.j0 k l1 t287 l0_0) = some r := H
   have A8 := Aside0.mk A80
   clear A80
   have H' := Aside0.mk H
   clear H
   have hcz9_0 : w4.cell? ⟨gb285, 0, none⟩ = some (.slice A0_0 l0_0.length c0_0) := (blk_cell BK285.out 0).trans rfl
   have hfz9_0 := blk_frozen BK285.out 0
   go_wp2_with (first | ((with_reducible refine gate_callee (f := 8) rfl ?_); refine goesL_ (some 14) rfl rfl Try.func8 (by kernel_rfl) rfl #[.slice A0_0 l0_0.length c0_0] rfl (by (try simp only [List.map_toArray, List.map_cons, List.map_nil]); first | done | rfl | (simp only [List.length_drop, List.length_take]; rfl)) ?_; (with_reducible refine (haywainlaw22_great.calls k _ _ l0_0 false _ ?side1 ?side2 A5.out).mono ?_); (case side1 => repeat (first | exact (Kd.C_below HR0_0.out HB.out) | (with_reducible refine Kd.C_alloc ?_ _) | (with_reducible refine Kd.C_drewN ?_ _) | (with_reducible refine Kd.C_drew ?_))); (case side2 => exact HC0_0.out); rintro e w' ⟨rfl, ⟨nd, rfl⟩⟩; refine ⟨_, rfl, ?_⟩) | (go_at_call 8; (with_reducible refine (haywainlaw22_great.calls k _ _ l1 t287 _ ?side1 ?side2 A8.out).mono ?_); (case side1 => repeat (first | exact (Kd.C_below HR1.out (by repeat (first | (with_reducible first | exact HB.out | apply below_alloc | apply pw_below_drewN | apply below_drew1 | refine below_set ?_ GE285.out) | exact HB.out))) | (with_reducible refine Kd.C_alloc ?_ _) | (with_reducible refine Kd.C_drewN ?_ _) | (with_reducible refine Kd.C_drew ?_))); (case side2 => exact HC1.out); rintro e w' ⟨rfl, ⟨nd, rfl⟩⟩))
   go_meet
   case rel => exact ⟨_, (t287), (by first | rfl | (simp; done) | (simp [*]; done)), H', ⟨by first | omega | exact Nat.le_refl _⟩, ⟨by (with_reducible repeat (first | refine blk_drewN ?_ _ | refine blk_drew ?_ | refine blk_alloc ?_ _)); exact BK285.out⟩, ⟨by repeat (first | (with_reducible first | exact HB.out | apply below_alloc | apply pw_below_drewN | apply below_drew1 | refine below_set ?_ GE285.out) | exact HB.out)⟩⟩
 case rest =>
  clear HC3
  try clear c1
  try clear p2
  try clear c6
  try clear c8
  try clear hcz7_0
  try clear hcz9_0
  try clear hfz7_0
  try clear hfz9_0
  obtain ⟨kq, x18_2, rfl, HA, HJ2, BK285, HB⟩ := hcut
  cases kq with
  | zero => exact absurd HA.out (by simp [haywainlaw22_NetFull.j0])
  | succ kj2 =>
   have H := HA.out
   clear HA
   simp only [haywainlaw22_NetFull.j0] at H
   by_cases c10 : x18_2 = true
   ·subst c10
    have H1 : ((haywainlaw22_knows.f kj2).bind fun t288 => (some t288)) = some r := by rw [if_pos rfl] at H; exact H
    clear H
    have H := H1
    clear H1
    replace H := Option.bind_eq_some_iff.mp H
    obtain ⟨t288, A110, H⟩ := H
    replace H : (some t288) = some r := H
    have A11 := Aside0.mk A110
    clear A110
    obtain rfl := Option.some.inj H
    go_wp2_with (first | ((with_reducible refine gate_callee (f := 9) rfl ?_); refine goesL_ (some 19) rfl rfl Try.func9 (by kernel_rfl) rfl #[] rfl (by (try simp only [List.map_toArray, List.map_cons, List.map_nil]); first | done | rfl | (simp only [List.length_drop, List.length_take]; rfl)) ?_; (with_reducible refine (haywainlaw22_knows.calls kj2  t288 _ A11.out).mono ?_); rintro e w12 ⟨rfl, hb⟩; refine ⟨_, rfl, ?_⟩; have n0_ := Aside0.mk (blk_below (g := gb285) (o := .cells #[.slice A0_0 l0_0.length c0_0] 26 (0, 0)) (by (with_reducible repeat (first | refine blk_drewN ?_ _ | refine blk_drew ?_ | refine blk_alloc ?_ _)); exact BK285.out) hb); have n1_ := Aside0.mk (below_step (by repeat (first | (with_reducible first | exact HB.out | apply below_alloc | apply pw_below_drewN | apply below_drew1 | refine below_set ?_ GE285.out) | exact HB.out)) hb); clear BK285; clear HB; have BK285 := n0_; have HB := n1_; clear n0_ n1_; (try clear hb); (try clear hb2); (try clear hk); (try clear hi)))
    go_ret
    exact ⟨by first | rfl | (simp [errW_none, errW_some] <;> rfl) | (simp [*, errW_none, errW_some] <;> rfl), by repeat (first | (with_reducible first | exact HB.out | apply below_alloc | apply pw_below_drewN | apply below_drew1 | refine below_set ?_ GE285.out) | exact HB.out)⟩
   ·replace c10 := Bool.eq_false_iff.mpr c10
    subst c10
    have H1 : ((haywainlaw22_As.f kj2 l0_0).bind fun t289 => ((haywainref22_Good.f kj2 t289).bind fun t292 => ((net_Send.f kj2 l0_0 l1).bind fun bt295 => (haywainlaw22_NetFull.l0 kj2 l1 (t292.length : Int) bt295.2 0 0 bt295.1)))) = some r := by rw [if_neg (show ¬ (false = true) by decide)] at H; exact H
    clear H
    have H := H1
    clear H1
    replace H := Option.bind_eq_some_iff.mp H
    obtain ⟨t289, A130, H⟩ := H
    replace H : ((haywainref22_Good.f kj2 t289).bind fun t292 => ((net_Send.f kj2 l0_0 l1).bind fun bt295 => (haywainlaw22_NetFull.l0 kj2 l1 (t292.length : Int) bt295.2 0 0 bt295.1))) = some r := H
    have A13 := Aside0.mk A130
    clear A130
    replace H := Option.bind_eq_some_iff.mp H
    obtain ⟨t292, A140, H⟩ := H
    replace H : ((net_Send.f kj2 l0_0 l1).bind fun bt295 => (haywainlaw22_NetFull.l0 kj2 l1 (t292.length : Int) bt295.2 0 0 bt295.1)) = some r := H
    have A14 := Aside0.mk A140
    clear A140
    replace H := Option.bind_eq_some_iff.mp H
    obtain ⟨⟨t295, t298⟩, A150, H⟩ := H
    replace H : (haywainlaw22_NetFull.l0 kj2 l1 (t292.length : Int) t298 0 0 t295) = some r := H
    have A15 := Aside0.mk A150
    clear A150
    have H' := Aside0.mk H
    clear H
    have hcz16_0 : wc.cell? ⟨gb285, 0, none⟩ = some (.slice A0_0 l0_0.length c0_0) := (blk_cell BK285.out 0).trans rfl
    have hfz16_0 := blk_frozen BK285.out 0
    go_wp2_with (first | ((with_reducible refine gate_callee (f := 12) rfl ?_); refine goesL_ (some 22) rfl rfl Try.func12 (by kernel_rfl) rfl #[.slice A0_0 l0_0.length c0_0] rfl (by (try simp only [List.map_toArray, List.map_cons, List.map_nil]); first | done | rfl | (simp only [List.length_drop, List.length_take]; rfl)) ?_; (with_reducible refine (haywainlaw22_As.calls kj2 _ _ l0_0 t289 _ ?side1 ?side2 A13.out).mono ?_); (case side1 => repeat (first | exact (Kd.C_below HR0_0.out HB.out) | (with_reducible refine Kd.C_alloc ?_ _) | (with_reducible refine Kd.C_drewN ?_ _) | (with_reducible refine Kd.C_drew ?_))); (case side2 => exact HC0_0.out); rintro e w17 ⟨v290, rfl, ho0, hb⟩; refine ⟨_, rfl, ?_⟩; have n0_ := Aside0.mk (Kd.R_lower ho0 (below_size (by repeat (first | (with_reducible first | exact HB.out | apply below_alloc | apply pw_below_drewN | apply below_drew1 | refine below_set ?_ GE285.out) | exact HB.out)))); have n1_ := Aside0.mk (blk_below (g := gb285) (o := .cells #[.slice A0_0 l0_0.length c0_0] 26 (0, 0)) (by (with_reducible repeat (first | refine blk_drewN ?_ _ | refine blk_drew ?_ | refine blk_alloc ?_ _)); exact BK285.out) hb); have n2_ := Aside0.mk (below_step (by repeat (first | (with_reducible first | exact HB.out | apply below_alloc | apply pw_below_drewN | apply below_drew1 | refine below_set ?_ GE285.out) | exact HB.out)) hb); clear BK285; clear HB; have HO291 := n0_; have BK285 := n1_; have HB := n2_; clear n0_ n1_ n2_; (try clear hb); (try clear hb2); (try clear hk); (try clear hi); (try clear ho0); obtain ⟨Ao18, co18, eo18⟩ := Kd.R_slice HO291.out; subst eo18) | ((with_reducible refine gate_callee (f := 22) rfl ?_); refine goesL_ (some 23) rfl rfl Try.func22 (by kernel_rfl) rfl #[.slice Ao18 t289.length co18] rfl (by (try simp only [List.map_toArray, List.map_cons, List.map_nil]); first | done | rfl | (simp only [List.length_drop, List.length_take]; rfl)) ?_; (with_reducible refine (haywainref22_Good.calls kj2 (fun k_ => some k_ = (.slice Ao18 t289.length co18 : Value).ownBlock) _ _ t289 t292 _ ?side1 A14.out).mono ?_); (case side1 => exact Kd.R_V (Kd.R_tight rfl (Kd.R_types (HO291.out) BK285.out (by decide)))); rintro e w19 ⟨v293, rfl, ho0, hb⟩; refine ⟨_, rfl, ?_⟩; have n0_ := Aside0.mk (Kd.R_below (by (with_reducible repeat (first | apply Kd.R_alloc | apply Kd.R_drewN | apply Kd.R_drew)); exact HO291.out) hb); have n1_ := Aside0.mk (Kd.V_lower (Kd.V_mono (ok' := fun k_ => k_ ≠ gb285) ho0 (fun k_ hk_ => Or.elim hk_ (fun hs_ => ((Kd.R_types (HO291.out) BK285.out (by decide)).1 k_ hs_.symm).2) (fun hn_ => (Kd.freshB (g := gb285) (o := .cells #[.slice A0_0 l0_0.length c0_0] 26 (0, 0)) (by (with_reducible repeat (first | refine blk_drewN ?_ _ | refine blk_drew ?_ | refine blk_alloc ?_ _)); exact BK285.out) k_ hn_)))) (below_size (by repeat (first | (with_reducible first | exact HB.out | apply below_alloc | apply pw_below_drewN | apply below_drew1 | refine below_set ?_ GE285.out) | exact HB.out)))); have n2_ := Aside0.mk (blk_below (g := gb285) (o := .cells #[.slice A0_0 l0_0.length c0_0] 26 (0, 0)) (by (with_reducible repeat (first | refine blk_drewN ?_ _ | refine blk_drew ?_ | refine blk_alloc ?_ _)); exact BK285.out) hb); have n3_ := Aside0.mk (below_step (by repeat (first | (with_reducible first | exact HB.out | apply below_alloc | apply pw_below_drewN | apply below_drew1 | refine below_set ?_ GE285.out) | exact HB.out)) hb); clear HO291; clear BK285; clear HB; have HO291 := n0_; have HO294 := n1_; have BK285 := n2_; have HB := n3_; clear n0_ n1_ n2_ n3_; (try clear hb); (try clear hb2); (try clear hk); (try clear hi); (try clear ho0); obtain ⟨Ao20, co20, eo20⟩ := Kd.V_slice HO294.out; subst eo20; have hcz21_0 : w19.cell? ⟨gb285, 0, none⟩ = some (.slice A0_0 l0_0.length c0_0) := (blk_cell BK285.out 0).trans rfl; have hfz21_0 := blk_frozen BK285.out 0) | ((with_reducible refine gate_callee (f := 15) rfl ?_); refine goesL_ (some 28) rfl rfl Try.func15 (by kernel_rfl) rfl #[.agg #[.slice A0_0 l0_0.length c0_0], .slice A1 l1.length c1] rfl (by (try simp only [List.map_toArray, List.map_cons, List.map_nil]); first | done | rfl | (simp only [List.length_drop, List.length_take]; rfl)) ?_; (with_reducible refine (net_Send.calls kj2 _ _ l0_0 _ _ l1 t295 t298 _ ?side1 ?side2 ?side3 ?side4 A15.out).mono ?_); (case side1 => repeat (first | exact (Kd.C_below HR0_0.out HB.out) | (with_reducible refine Kd.C_alloc ?_ _) | (with_reducible refine Kd.C_drewN ?_ _) | (with_reducible refine Kd.C_drew ?_))); (case side2 => exact HC0_0.out); (case side3 => repeat (first | exact (Kd.C_below HR1.out HB.out) | (with_reducible refine Kd.C_alloc ?_ _) | (with_reducible refine Kd.C_drewN ?_ _) | (with_reducible refine Kd.C_drew ?_))); (case side4 => exact HC1.out); rintro e w22 ⟨v296, rfl, ho0, hb⟩; refine ⟨_, rfl, ?_⟩; have n0_ := Aside0.mk (Kd.R_below (by (with_reducible repeat (first | apply Kd.R_alloc | apply Kd.R_drewN | apply Kd.R_drew)); exact HO291.out) hb); have n1_ := Aside0.mk (Kd.V_elder' (by (with_reducible repeat (first | apply Kd.V_alloc | apply Kd.V_drewN | apply Kd.V_drew)); exact HO294.out) (Kd.R_base ho0) hb); have n2_ := Aside0.mk (Kd.R_lower ho0 (below_size (by repeat (first | (with_reducible first | exact HB.out | apply below_alloc | apply pw_below_drewN | apply below_drew1 | refine below_set ?_ GE285.out) | exact HB.out)))); have n3_ := Aside0.mk (blk_below (g := gb285) (o := .cells #[.slice A0_0 l0_0.length c0_0] 26 (0, 0)) (by (with_reducible repeat (first | refine blk_drewN ?_ _ | refine blk_drew ?_ | refine blk_alloc ?_ _)); exact BK285.out) hb); have n4_ := Aside0.mk (below_step (by repeat (first | (with_reducible first | exact HB.out | apply below_alloc | apply pw_below_drewN | apply below_drew1 | refine below_set ?_ GE285.out) | exact HB.out)) hb); clear HO291; clear HO294; clear BK285; clear HB; have HO291 := n0_; have HO294 := n1_; have HO297 := n2_; have BK285 := n3_; have HB := n4_; clear n0_ n1_ n2_ n3_ n4_; (try clear hb); (try clear hb2); (try clear hk); (try clear hi); (try clear ho0)) | ((with_reducible refine gate_dst (N := 6) rfl ?_); (try (refine gate_guard (by rfl) ?_; dsimp only)); refine box_event ?hg (N := 6) ?hd (cs := #[.slice none 0 0]) (t := 26) ?hr ?_; (case hd => rfl); (case hg => rfl); (case hr => first | (go_simp; done) | (go_simp; rfl)); intro gb299 hg w23 hbox hb; have n0_ := Aside0.mk (Kd.R_below (by (with_reducible repeat (first | apply Kd.R_alloc | apply Kd.R_drewN | apply Kd.R_drew)); exact HO291.out) hb); have n1_ := Aside0.mk (Kd.V_below (Kd.V_elderB (by (with_reducible repeat (first | apply Kd.V_alloc | apply Kd.V_drewN | apply Kd.V_drew)); exact HO294.out) gb299 (Nat.le_of_eq hg.symm)) hb); have n2_ := Aside0.mk (Kd.R_below (by (with_reducible repeat (first | apply Kd.R_alloc | apply Kd.R_drewN | apply Kd.R_drew)); exact HO297.out) hb); have n3_ := Aside0.mk (blk_below (g := gb285) (o := .cells #[.slice A0_0 l0_0.length c0_0] 26 (0, 0)) (by (with_reducible repeat (first | refine blk_drewN ?_ _ | refine blk_drew ?_ | refine blk_alloc ?_ _)); exact BK285.out) hb); have n4_ := Aside0.mk (below_step (by repeat (first | (with_reducible first | exact HB.out | apply below_alloc | apply pw_below_drewN | apply below_drew1 | refine below_set ?_ GE285.out) | exact HB.out)) hb); have n5_ := Aside0.mk (hbox); have n6_ := Aside0.mk ((by rw [hg]; exact (below_size (by repeat (first | (with_reducible first | exact HB.out | apply below_alloc | apply pw_below_drewN | apply below_drew1 | refine below_set ?_ GE285.out) | exact HB.out))) : w.heap.size ≤ gb299)); have n7_ := Aside0.mk ((by rw [hg]; exact (below_size (by repeat (first | (with_reducible first | exact HB.out | apply below_alloc | apply pw_below_drewN | apply below_drew1 | refine below_set ?_ GE285.out) | exact HB.out))) : w.heap.size ≤ gb299)); have n8_ := Aside0.mk ((by rw [hg]; exact Nat.ne_of_lt (blk_lt (g := gb285) (o := .cells #[.slice A0_0 l0_0.length c0_0] 26 (0, 0)) (by (with_reducible repeat (first | refine blk_drewN ?_ _ | refine blk_drew ?_ | refine blk_alloc ?_ _)); exact BK285.out)) : gb285 ≠ gb299)); have n9_ := Aside0.mk ((by rw [hg]; exact Nat.ne_of_gt (blk_lt (g := gb285) (o := .cells #[.slice A0_0 l0_0.length c0_0] 26 (0, 0)) (by (with_reducible repeat (first | refine blk_drewN ?_ _ | refine blk_drew ?_ | refine blk_alloc ?_ _)); exact BK285.out)) : gb299 ≠ gb285)); clear HO291; clear HO294; clear HO297; clear BK285; clear HB; have HO291 := n0_; have HO294 := n1_; have HO297 := n2_; have BK285 := n3_; have HB := n4_; have BK299 := n5_; have GW299 := n6_; have GE299 := n7_; have NB285_299 := n8_; have NB299_285 := n9_; clear n0_ n1_ n2_ n3_ n4_ n5_ n6_ n7_ n8_ n9_; clear hb hbox hg; obtain ⟨Ao24, co24, eo24⟩ := Kd.R_slice HO297.out; subst eo24; have hnb25 := NB299_285.out; have hnc25 := NB285_299.out; have hcz26_0 : w23.cell? ⟨gb299, 0, none⟩ = some (.slice none 0 0) := (blk_cell BK299.out 0).trans rfl; have hfz26_0 := blk_frozen BK299.out 0))
    go_loopg [8, 9] kj2 (fun kq v8 v9 w' => ∃ (x8_2 : Int) (x9_2 : Int), v8 = .int .i64 x8_2 ∧ v9 = .int .i64 x9_2 ∧ Aside0 (haywainlaw22_NetFull.l0 kq l1 (t292.length : Int) t298 x8_2 x9_2 t295 = some r) ∧ Aside0 (kq ≤ kj2) ∧ Aside0 (Kd.R k23 23 w' w.heap.size (fun _ => True) (.slice Ao24 t295.length co24) t295) ∧ Aside0 (w'.heap[gb285]? = some (.cells #[(.slice A0_0 l0_0.length c0_0)] 26 (0, 0))) ∧ Aside0 (w'.heap[gb299]? = some (.cells #[(.slice Ao24 t295.length co24)] 26 (0, 0))) ∧ Aside0 (Below w.heap.size w w'))
    case atStart => exact ⟨(0), (0), (by first | rfl | (simp; done) | (simp [*]; done)), (by first | rfl | (simp; done) | (simp [*]; done)), H', ⟨Nat.le_refl _⟩, ⟨by (with_reducible repeat (first | apply Kd.R_alloc | apply Kd.R_drewN | apply Kd.R_drew)); exact Kd.R_mono (Kd.R_far (p := ⟨gb299, 0, none⟩) (Kd.R_types HO297.out BK299.out (by decide)) (fun _ hk => hk.2) (.slice Ao24 t295.length co24)) (fun _ hk => trivial)⟩, ⟨by (with_reducible repeat (first | refine blk_drewN ?_ _ | refine blk_drew ?_ | refine blk_alloc ?_ _)); refine blk_far ?_ NB285_299.out _; (with_reducible repeat (first | refine blk_drewN ?_ _ | refine blk_drew ?_ | refine blk_alloc ?_ _)); exact BK285.out⟩, ⟨by (with_reducible repeat (first | refine blk_drewN ?_ _ | refine blk_drew ?_ | refine blk_alloc ?_ _)); refine blk_put (cs := #[.slice none 0 0]) ?_ 0 _ rfl; (with_reducible repeat (first | refine blk_drewN ?_ _ | refine blk_drew ?_ | refine blk_alloc ?_ _)); exact BK299.out⟩, ⟨by repeat (first | (with_reducible first | exact HB.out | apply below_alloc | apply pw_below_drewN | apply below_drew1 | refine below_set ?_ GE285.out | refine below_set ?_ GE299.out) | exact HB.out)⟩⟩
    case round =>
     clear H'
     try clear c1
     try clear c2
     try clear p2
     try clear c6
     try clear c8
     try clear c9
     try clear c10
     try clear c12
     try clear c15
     try clear c22
     try clear c25
     try clear hcz16_0
     try clear hcz21_0
     try clear hcz26_0
     try clear hcz7_0
     try clear hcz9_0
     try clear hfz16_0
     try clear hfz21_0
     try clear hfz26_0
     try clear hfz7_0
     try clear hfz9_0
     try clear p2
     obtain ⟨x8_2, x9_2, rfl, rfl, HA, HK2, HO_300000, BK285, BK299, HB⟩ := hrel
     cases gk with
     | zero => exact absurd HA.out (by simp [haywainlaw22_NetFull.l0])
     | succ k2 =>
      have H := HA.out
      clear HA
      simp only [haywainlaw22_NetFull.l0] at H
      by_cases c27 : x9_2 < (l1.length : Int)
      ·rw [if_pos c27] at H
       have c27b0 : decide (x9_2 < (l1.length : Int)) = true := decide_eq_true c27
       clear c27
       by_cases c28 : 0 ≤ x9_2
       ·rw [if_pos c28] at H
        have c28b0 := eq_true c28
        have c28b1 : decide (0 ≤ x9_2) = true := decide_eq_true c28
        clear c28
        by_cases c29 : x9_2 ≤ (wrap64 (x9_2 + 1))
        ·rw [if_pos c29] at H
         have c29b0 := eq_true c29
         have c29b1 : decide (x9_2 ≤ (wrap64 (x9_2 + 1))) = true := decide_eq_true c29
         by_cases c30 : (wrap64 (x9_2 + 1)) ≤ (l1.length : Int)
         ·rw [if_pos c30] at H
          have c30b0 := eq_true c30
          have c30b1 : decide ((wrap64 (x9_2 + 1)) ≤ (l1.length : Int)) = true := decide_eq_true c30
          obtain ⟨y300, hy300⟩ : ∃ y_ : List (S23), y_ = ((l1.take ((wrap64 (x9_2 + 1)) : Int).toNat).drop (x9_2 : Int).toNat) := ⟨_, rfl⟩
          replace H : ((haywainlaw22_As.f k2 y300).bind fun t304 => (if 0 < (t304.length : Int) then ((haywainref22_Fair.f k2 ((rd_T31 t304 0).f0) ((rd_T31 t304 0).f1) ((rd_T31 t304 0).f2) ((rd_T31 t304 0).f3) ((rd_T31 t304 0).f4) ((rd_T31 t304 0).f5) ((rd_T31 t304 0).f6) ((rd_T31 t304 0).f7)).bind fun t308 => (if t308 = true then (haywainlaw22_NetFull.l0 k2 l1 (t292.length : Int) t298 (wrap64 (x8_2 + 1)) (wrap64 (x9_2 + 1)) t295) else (haywainlaw22_NetFull.l0 k2 l1 (t292.length : Int) t298 x8_2 (wrap64 (x9_2 + 1)) t295))) else (none))) = some r := by first | (rw [hy300]; with_reducible exact H) | (have H2_ := (Option.bind_some _ _).symm.trans H; rw [hy300]; with_reducible exact H2_) | (have H2_ := (Option.bind_some _ _).symm.trans H; with_reducible exact H2_) | with_reducible exact H | (rw [hy300]; exact H) | exact H
          have Ny300 := Aside0.mk hy300
          clear hy300
          replace H := Option.bind_eq_some_iff.mp H
          obtain ⟨t304, A310, H⟩ := H
          replace H : (if 0 < (t304.length : Int) then ((haywainref22_Fair.f k2 ((rd_T31 t304 0).f0) ((rd_T31 t304 0).f1) ((rd_T31 t304 0).f2) ((rd_T31 t304 0).f3) ((rd_T31 t304 0).f4) ((rd_T31 t304 0).f5) ((rd_T31 t304 0).f6) ((rd_T31 t304 0).f7)).bind fun t308 => (if t308 = true then (haywainlaw22_NetFull.l0 k2 l1 (t292.length : Int) t298 (wrap64 (x8_2 + 1)) (wrap64 (x9_2 + 1)) t295) else (haywainlaw22_NetFull.l0 k2 l1 (t292.length : Int) t298 x8_2 (wrap64 (x9_2 + 1)) t295))) else (none)) = some r := H
          have A31 := Aside0.mk A310
          clear A310
          by_cases c32 : 0 < (t304.length : Int)
          ·rw [if_pos c32] at H
           have c32b0 : decide (0 < (t304.length : Int)) = true := decide_eq_true c32
           have c32b1 : decide (0 < t304.length) = true := decide_eq_true (by omega)
           clear c32
           replace H := Option.bind_eq_some_iff.mp H
           obtain ⟨t308, A330, H⟩ := H
           replace H : (if t308 = true then (haywainlaw22_NetFull.l0 k2 l1 (t292.length : Int) t298 (wrap64 (x8_2 + 1)) (wrap64 (x9_2 + 1)) t295) else (haywainlaw22_NetFull.l0 k2 l1 (t292.length : Int) t298 x8_2 (wrap64 (x9_2 + 1)) t295)) = some r := H
           have A33 := Aside0.mk A330
           clear A330
           by_cases c34 : t308 = true
           ·subst c34
            have H1 : (haywainlaw22_NetFull.l0 k2 l1 (t292.length : Int) t298 (wrap64 (x8_2 + 1)) (wrap64 (x9_2 + 1)) t295) = some r := by rw [if_pos rfl] at H; exact H
            clear H
            have H := H1
            clear H1
            have H' := Aside0.mk H
            clear H
            have q35 : ((wrap64 (x9_2 + 1)) : Int) ≤ ((l1.length : Int) : Int) := of_decide_eq_true (by first | (with_reducible assumption) | assumption)
            obtain ⟨i035, hi035, _, hsz35, _⟩ := info_parts info23
            have hroom35 : l1.length ≤ c1 := HC1.out
            have hC35 : Kd.C k23 _ A1 l1.length l1 := HR1.out
            have ql35 : (x9_2 : Int) ≤ ((wrap64 (x9_2 + 1)) : Int) := of_decide_eq_true (by first | (with_reducible assumption) | assumption)
            have q035 : (0 : Int) ≤ (x9_2 : Int) := of_decide_eq_true (by first | (with_reducible assumption) | assumption)
            have hcut35 := cut_mid (P := Try.prog) 24 23 .i64 .i64 Try.underlying24 hi035 8 hsz35 A1 l1.length c1 x9_2 (wrap64 (x9_2 + 1)) q035 ql35 q35 hroom35
            have hr35 := Kd.C_mid (lo := (x9_2 : Int).toNat) (hi := ((wrap64 (x9_2 + 1)) : Int).toNat) (c := c1) hC35 (by omega) (by omega) hroom35
            obtain ⟨A35, hA35⟩ : ∃ Az_, Az_ = (if c1 = (x9_2 : Int).toNat then A1 else (A1 : Option Addr).map (·.add ((x9_2 : Int).toNat * 8))) := ⟨_, rfl⟩
            obtain ⟨c35, hc35⟩ : ∃ cz_, cz_ = c1 - (x9_2 : Int).toNat := ⟨_, rfl⟩
            have hy35 : y300.length = ((wrap64 (x9_2 + 1)) : Int).toNat - (x9_2 : Int).toNat := (by rw [Ny300.out, List.length_drop, List.length_take] <;> omega)
            rw [show ((l1).take ((wrap64 (x9_2 + 1)) : Int).toNat).drop (x9_2 : Int).toNat = y300 from Ny300.out.symm] at hr35
            replace hr35 : Kd.C k23 _ A35 y300.length y300 := (by rw [hA35]; exact hr35)
            rw [← hy35, ← hA35, ← hc35] at hcut35
            have HR303 := Aside0.mk hr35
            have HC303 := Aside0.mk (show y300.length ≤ c35 from by rw [hy35, hc35]; exact Nat.sub_le_sub_right (Nat.le_trans (by omega) hroom35) _)
            clear hr35 hC35 hroom35 hi035 hsz35 hc35
            have KY35 := Aside0.mk hy35
            have KA35 := Aside0.mk hA35
            clear hy35 hA35
            replace q35 := eq_true q35
            go_wp2_with (first | ((with_reducible refine gate_callee (f := 12) rfl ?_); refine goesL_ (some 42) rfl rfl Try.func12 (by kernel_rfl) rfl #[.slice A35 y300.length c35] rfl (by (try simp only [List.map_toArray, List.map_cons, List.map_nil]); first | done | rfl | (simp only [List.length_drop, List.length_take]; rfl)) ?_; (with_reducible refine (haywainlaw22_As.calls k2 _ _ y300 t304 _ ?side1 ?side2 A31.out).mono ?_); (case side1 => repeat (first | exact (Kd.C_below HR303.out HB.out) | (with_reducible refine Kd.C_alloc ?_ _) | (with_reducible refine Kd.C_drewN ?_ _) | (with_reducible refine Kd.C_drew ?_))); (case side2 => exact HC303.out); rintro e w36 ⟨v305, rfl, ho0, hb⟩; refine ⟨_, rfl, ?_⟩; have n0_ := Aside0.mk (Kd.R_below (by (with_reducible repeat (first | apply Kd.R_alloc | apply Kd.R_drewN | apply Kd.R_drew)); exact HO_300000.out) hb); have n1_ := Aside0.mk (Kd.R_lower ho0 (below_size (by repeat (first | (with_reducible first | exact HB.out | apply below_alloc | apply pw_below_drewN | apply below_drew1 | refine below_set ?_ GE285.out | refine below_set ?_ GE299.out) | exact HB.out)))); have n2_ := Aside0.mk (blk_below (g := gb285) (o := .cells #[.slice A0_0 l0_0.length c0_0] 26 (0, 0)) (by (with_reducible repeat (first | refine blk_drewN ?_ _ | refine blk_drew ?_ | refine blk_alloc ?_ _)); exact BK285.out) hb); have n3_ := Aside0.mk (blk_below (g := gb299) (o := .cells #[.slice Ao24 t295.length co24] 26 (0, 0)) (by (with_reducible repeat (first | refine blk_drewN ?_ _ | refine blk_drew ?_ | refine blk_alloc ?_ _)); exact BK299.out) hb); have n4_ := Aside0.mk (below_step (by repeat (first | (with_reducible first | exact HB.out | apply below_alloc | apply pw_below_drewN | apply below_drew1 | refine below_set ?_ GE285.out | refine below_set ?_ GE299.out) | exact HB.out)) hb); clear HO_300000; clear BK285; clear BK299; clear HB; have HO_300000 := n0_; have HO306 := n1_; have BK285 := n2_; have BK299 := n3_; have HB := n4_; clear n0_ n1_ n2_ n3_ n4_; (try clear hb); (try clear hb2); (try clear hk); (try clear hi); (try clear ho0); obtain ⟨Ao37, co37, eo37⟩ := Kd.R_slice HO306.out; subst eo37; have p307 : 0 ≤ (0 : Int) := (by omega); have q307 : 0 < (t304.length : Int) := of_decide_eq_true (by first | (with_reducible assumption) | assumption); obtain ⟨ad307, e307, hx307_0, hx307_1, hx307_2, hx307_3, hx307_4, hx307_5, hx307_6, hx307_7⟩ := at_T31 (Kd.R_reads' HO306.out).2.2 0 p307 q307; cases e307; have qi307 : (0 < t304.length) = True := eq_true (by omega); (try rw [show ((0 : Int)).toNat = 0 from rfl] at hx307_0); (try rw [show 0 * 8 = 0 from rfl] at hx307_0); (try rw [Addr.add_zero'] at hx307_0); (try rw [show ((0 : Int)).toNat = 0 from rfl] at hx307_1); (try rw [show 0 * 8 = 0 from rfl] at hx307_1); (try rw [Addr.add_zero'] at hx307_1); (try rw [show ((0 : Int)).toNat = 0 from rfl] at hx307_2); (try rw [show 0 * 8 = 0 from rfl] at hx307_2); (try rw [Addr.add_zero'] at hx307_2); (try rw [show ((0 : Int)).toNat = 0 from rfl] at hx307_3); (try rw [show 0 * 8 = 0 from rfl] at hx307_3); (try rw [Addr.add_zero'] at hx307_3); (try rw [show ((0 : Int)).toNat = 0 from rfl] at hx307_4); (try rw [show 0 * 8 = 0 from rfl] at hx307_4); (try rw [Addr.add_zero'] at hx307_4); (try rw [show ((0 : Int)).toNat = 0 from rfl] at hx307_5); (try rw [show 0 * 8 = 0 from rfl] at hx307_5); (try rw [Addr.add_zero'] at hx307_5); (try rw [show ((0 : Int)).toNat = 0 from rfl] at hx307_6); (try rw [show 0 * 8 = 0 from rfl] at hx307_6); (try rw [Addr.add_zero'] at hx307_6); (try rw [show ((0 : Int)).toNat = 0 from rfl] at hx307_7); (try rw [show 0 * 8 = 0 from rfl] at hx307_7); (try rw [Addr.add_zero'] at hx307_7); replace p307 := eq_true p307; replace q307 := eq_true q307) | ((with_reducible refine gate_callee (f := 11) rfl ?_); refine goesL_ (some 45) rfl rfl Try.func11 (by kernel_rfl) rfl #[.agg #[.int .i64 ((rd_T31 t304 0).f0), .int .i64 ((rd_T31 t304 0).f1), .int .i64 ((rd_T31 t304 0).f2), .int .i64 ((rd_T31 t304 0).f3), .int .i64 ((rd_T31 t304 0).f4), .int .i64 ((rd_T31 t304 0).f5), .int .i64 ((rd_T31 t304 0).f6), .string ((rd_T31 t304 0).f7)]] rfl (by (try simp only [List.map_toArray, List.map_cons, List.map_nil]); first | done | rfl | (simp only [List.length_drop, List.length_take]; rfl)) ?_; (with_reducible refine (haywainref22_Fair.calls k2 ((rd_T31 t304 0).f0) ((rd_T31 t304 0).f1) ((rd_T31 t304 0).f2) ((rd_T31 t304 0).f3) ((rd_T31 t304 0).f4) ((rd_T31 t304 0).f5) ((rd_T31 t304 0).f6) ((rd_T31 t304 0).f7) true _ A33.out).mono ?_); rintro e w38 ⟨rfl, hb⟩; refine ⟨_, rfl, ?_⟩; have n0_ := Aside0.mk (Kd.R_below (by (with_reducible repeat (first | apply Kd.R_alloc | apply Kd.R_drewN | apply Kd.R_drew)); exact HO_300000.out) hb); have n1_ := Aside0.mk (Kd.R_below (by (with_reducible repeat (first | apply Kd.R_alloc | apply Kd.R_drewN | apply Kd.R_drew)); exact HO306.out) hb); have n2_ := Aside0.mk (blk_below (g := gb285) (o := .cells #[.slice A0_0 l0_0.length c0_0] 26 (0, 0)) (by (with_reducible repeat (first | refine blk_drewN ?_ _ | refine blk_drew ?_ | refine blk_alloc ?_ _)); exact BK285.out) hb); have n3_ := Aside0.mk (blk_below (g := gb299) (o := .cells #[.slice Ao24 t295.length co24] 26 (0, 0)) (by (with_reducible repeat (first | refine blk_drewN ?_ _ | refine blk_drew ?_ | refine blk_alloc ?_ _)); exact BK299.out) hb); have n4_ := Aside0.mk (below_step (by repeat (first | (with_reducible first | exact HB.out | apply below_alloc | apply pw_below_drewN | apply below_drew1 | refine below_set ?_ GE285.out | refine below_set ?_ GE299.out) | exact HB.out)) hb); clear HO_300000; clear HO306; clear BK285; clear BK299; clear HB; have HO_300000 := n0_; have HO306 := n1_; have BK285 := n2_; have BK299 := n3_; have HB := n4_; clear n0_ n1_ n2_ n3_ n4_; (try clear hb); (try clear hb2); (try clear hk); (try clear hi)))
            go_roundg k2
            case measure => have := HJ2.out; have := HK2.out; omega
            case rel => exact ⟨(wrap64 (x8_2 + 1)), (wrap64 (x9_2 + 1)), (by first | rfl | (simp; done) | (simp [*]; done)), (by first | rfl | (simp; done) | (simp [*]; done)), H', ⟨by have := HJ2.out; have := HK2.out; omega⟩, ⟨by (with_reducible repeat (first | apply Kd.R_alloc | apply Kd.R_drewN | apply Kd.R_drew)); exact HO_300000.out⟩, ⟨by (with_reducible repeat (first | refine blk_drewN ?_ _ | refine blk_drew ?_ | refine blk_alloc ?_ _)); exact BK285.out⟩, ⟨by (with_reducible repeat (first | refine blk_drewN ?_ _ | refine blk_drew ?_ | refine blk_alloc ?_ _)); exact BK299.out⟩, ⟨by repeat (first | (with_reducible first | exact HB.out | apply below_alloc | apply pw_below_drewN | apply below_drew1 | refine below_set ?_ GE285.out | refine below_set ?_ GE299.out) | exact HB.out)⟩⟩
           ·replace c34 := Bool.eq_false_iff.mpr c34
            subst c34
            have H1 : (haywainlaw22_NetFull.l0 k2 l1 (t292.length : Int) t298 x8_2 (wrap64 (x9_2 + 1)) t295) = some r := by rw [if_neg (show ¬ (false = true) by decide)] at H; exact H
            clear H
            have H := H1
            clear H1
            have H' := Aside0.mk H
            clear H
            have q39 : ((wrap64 (x9_2 + 1)) : Int) ≤ ((l1.length : Int) : Int) := of_decide_eq_true (by first | (with_reducible assumption) | assumption)
            obtain ⟨i039, hi039, _, hsz39, _⟩ := info_parts info23
            have hroom39 : l1.length ≤ c1 := HC1.out
            have hC39 : Kd.C k23 _ A1 l1.length l1 := HR1.out
            have ql39 : (x9_2 : Int) ≤ ((wrap64 (x9_2 + 1)) : Int) := of_decide_eq_true (by first | (with_reducible assumption) | assumption)
            have q039 : (0 : Int) ≤ (x9_2 : Int) := of_decide_eq_true (by first | (with_reducible assumption) | assumption)
            have hcut39 := cut_mid (P := Try.prog) 24 23 .i64 .i64 Try.underlying24 hi039 8 hsz39 A1 l1.length c1 x9_2 (wrap64 (x9_2 + 1)) q039 ql39 q39 hroom39
            have hr39 := Kd.C_mid (lo := (x9_2 : Int).toNat) (hi := ((wrap64 (x9_2 + 1)) : Int).toNat) (c := c1) hC39 (by omega) (by omega) hroom39
            obtain ⟨A39, hA39⟩ : ∃ Az_, Az_ = (if c1 = (x9_2 : Int).toNat then A1 else (A1 : Option Addr).map (·.add ((x9_2 : Int).toNat * 8))) := ⟨_, rfl⟩
            obtain ⟨c39, hc39⟩ : ∃ cz_, cz_ = c1 - (x9_2 : Int).toNat := ⟨_, rfl⟩
            have hy39 : y300.length = ((wrap64 (x9_2 + 1)) : Int).toNat - (x9_2 : Int).toNat := (by rw [Ny300.out, List.length_drop, List.length_take] <;> omega)
            rw [show ((l1).take ((wrap64 (x9_2 + 1)) : Int).toNat).drop (x9_2 : Int).toNat = y300 from Ny300.out.symm] at hr39
            replace hr39 : Kd.C k23 _ A39 y300.length y300 := (by rw [hA39]; exact hr39)
            rw [← hy39, ← hA39, ← hc39] at hcut39
            have HR303 := Aside0.mk hr39
            have HC303 := Aside0.mk (show y300.length ≤ c39 from by rw [hy39, hc39]; exact Nat.sub_le_sub_right (Nat.le_trans (by omega) hroom39) _)
            clear hr39 hC39 hroom39 hi039 hsz39 hc39
            have KY39 := Aside0.mk hy39
            have KA39 := Aside0.mk hA39
            clear hy39 hA39
            replace q39 := eq_true q39
            go_wp2_with (first | ((with_reducible refine gate_callee (f := 12) rfl ?_); refine goesL_ (some 42) rfl rfl Try.func12 (by kernel_rfl) rfl #[.slice A39 y300.length c39] rfl (by (try simp only [List.map_toArray, List.map_cons, List.map_nil]); first | done | rfl | (simp only [List.length_drop, List.length_take]; rfl)) ?_; (with_reducible refine (haywainlaw22_As.calls k2 _ _ y300 t304 _ ?side1 ?side2 A31.out).mono ?_); (case side1 => repeat (first | exact (Kd.C_below HR303.out HB.out) | (with_reducible refine Kd.C_alloc ?_ _) | (with_reducible refine Kd.C_drewN ?_ _) | (with_reducible refine Kd.C_drew ?_))); (case side2 => exact HC303.out); rintro e w40 ⟨v305, rfl, ho0, hb⟩; refine ⟨_, rfl, ?_⟩; have n0_ := Aside0.mk (Kd.R_below (by (with_reducible repeat (first | apply Kd.R_alloc | apply Kd.R_drewN | apply Kd.R_drew)); exact HO_300000.out) hb); have n1_ := Aside0.mk (Kd.R_lower ho0 (below_size (by repeat (first | (with_reducible first | exact HB.out | apply below_alloc | apply pw_below_drewN | apply below_drew1 | refine below_set ?_ GE285.out | refine below_set ?_ GE299.out) | exact HB.out)))); have n2_ := Aside0.mk (blk_below (g := gb285) (o := .cells #[.slice A0_0 l0_0.length c0_0] 26 (0, 0)) (by (with_reducible repeat (first | refine blk_drewN ?_ _ | refine blk_drew ?_ | refine blk_alloc ?_ _)); exact BK285.out) hb); have n3_ := Aside0.mk (blk_below (g := gb299) (o := .cells #[.slice Ao24 t295.length co24] 26 (0, 0)) (by (with_reducible repeat (first | refine blk_drewN ?_ _ | refine blk_drew ?_ | refine blk_alloc ?_ _)); exact BK299.out) hb); have n4_ := Aside0.mk (below_step (by repeat (first | (with_reducible first | exact HB.out | apply below_alloc | apply pw_below_drewN | apply below_drew1 | refine below_set ?_ GE285.out | refine below_set ?_ GE299.out) | exact HB.out)) hb); clear HO_300000; clear BK285; clear BK299; clear HB; have HO_300000 := n0_; have HO306 := n1_; have BK285 := n2_; have BK299 := n3_; have HB := n4_; clear n0_ n1_ n2_ n3_ n4_; (try clear hb); (try clear hb2); (try clear hk); (try clear hi); (try clear ho0); obtain ⟨Ao41, co41, eo41⟩ := Kd.R_slice HO306.out; subst eo41; have p307 : 0 ≤ (0 : Int) := (by omega); have q307 : 0 < (t304.length : Int) := of_decide_eq_true (by first | (with_reducible assumption) | assumption); obtain ⟨ad307, e307, hx307_0, hx307_1, hx307_2, hx307_3, hx307_4, hx307_5, hx307_6, hx307_7⟩ := at_T31 (Kd.R_reads' HO306.out).2.2 0 p307 q307; cases e307; have qi307 : (0 < t304.length) = True := eq_true (by omega); (try rw [show ((0 : Int)).toNat = 0 from rfl] at hx307_0); (try rw [show 0 * 8 = 0 from rfl] at hx307_0); (try rw [Addr.add_zero'] at hx307_0); (try rw [show ((0 : Int)).toNat = 0 from rfl] at hx307_1); (try rw [show 0 * 8 = 0 from rfl] at hx307_1); (try rw [Addr.add_zero'] at hx307_1); (try rw [show ((0 : Int)).toNat = 0 from rfl] at hx307_2); (try rw [show 0 * 8 = 0 from rfl] at hx307_2); (try rw [Addr.add_zero'] at hx307_2); (try rw [show ((0 : Int)).toNat = 0 from rfl] at hx307_3); (try rw [show 0 * 8 = 0 from rfl] at hx307_3); (try rw [Addr.add_zero'] at hx307_3); (try rw [show ((0 : Int)).toNat = 0 from rfl] at hx307_4); (try rw [show 0 * 8 = 0 from rfl] at hx307_4); (try rw [Addr.add_zero'] at hx307_4); (try rw [show ((0 : Int)).toNat = 0 from rfl] at hx307_5); (try rw [show 0 * 8 = 0 from rfl] at hx307_5); (try rw [Addr.add_zero'] at hx307_5); (try rw [show ((0 : Int)).toNat = 0 from rfl] at hx307_6); (try rw [show 0 * 8 = 0 from rfl] at hx307_6); (try rw [Addr.add_zero'] at hx307_6); (try rw [show ((0 : Int)).toNat = 0 from rfl] at hx307_7); (try rw [show 0 * 8 = 0 from rfl] at hx307_7); (try rw [Addr.add_zero'] at hx307_7); replace p307 := eq_true p307; replace q307 := eq_true q307) | ((with_reducible refine gate_callee (f := 11) rfl ?_); refine goesL_ (some 45) rfl rfl Try.func11 (by kernel_rfl) rfl #[.agg #[.int .i64 ((rd_T31 t304 0).f0), .int .i64 ((rd_T31 t304 0).f1), .int .i64 ((rd_T31 t304 0).f2), .int .i64 ((rd_T31 t304 0).f3), .int .i64 ((rd_T31 t304 0).f4), .int .i64 ((rd_T31 t304 0).f5), .int .i64 ((rd_T31 t304 0).f6), .string ((rd_T31 t304 0).f7)]] rfl (by (try simp only [List.map_toArray, List.map_cons, List.map_nil]); first | done | rfl | (simp only [List.length_drop, List.length_take]; rfl)) ?_; (with_reducible refine (haywainref22_Fair.calls k2 ((rd_T31 t304 0).f0) ((rd_T31 t304 0).f1) ((rd_T31 t304 0).f2) ((rd_T31 t304 0).f3) ((rd_T31 t304 0).f4) ((rd_T31 t304 0).f5) ((rd_T31 t304 0).f6) ((rd_T31 t304 0).f7) false _ A33.out).mono ?_); rintro e w42 ⟨rfl, hb⟩; refine ⟨_, rfl, ?_⟩; have n0_ := Aside0.mk (Kd.R_below (by (with_reducible repeat (first | apply Kd.R_alloc | apply Kd.R_drewN | apply Kd.R_drew)); exact HO_300000.out) hb); have n1_ := Aside0.mk (Kd.R_below (by (with_reducible repeat (first | apply Kd.R_alloc | apply Kd.R_drewN | apply Kd.R_drew)); exact HO306.out) hb); have n2_ := Aside0.mk (blk_below (g := gb285) (o := .cells #[.slice A0_0 l0_0.length c0_0] 26 (0, 0)) (by (with_reducible repeat (first | refine blk_drewN ?_ _ | refine blk_drew ?_ | refine blk_alloc ?_ _)); exact BK285.out) hb); have n3_ := Aside0.mk (blk_below (g := gb299) (o := .cells #[.slice Ao24 t295.length co24] 26 (0, 0)) (by (with_reducible repeat (first | refine blk_drewN ?_ _ | refine blk_drew ?_ | refine blk_alloc ?_ _)); exact BK299.out) hb); have n4_ := Aside0.mk (below_step (by repeat (first | (with_reducible first | exact HB.out | apply below_alloc | apply pw_below_drewN | apply below_drew1 | refine below_set ?_ GE285.out | refine below_set ?_ GE299.out) | exact HB.out)) hb); clear HO_300000; clear HO306; clear BK285; clear BK299; clear HB; have HO_300000 := n0_; have HO306 := n1_; have BK285 := n2_; have BK299 := n3_; have HB := n4_; clear n0_ n1_ n2_ n3_ n4_; (try clear hb); (try clear hb2); (try clear hk); (try clear hi)))
            go_roundg k2
            case measure => have := HJ2.out; have := HK2.out; omega
            case rel => exact ⟨(x8_2), (wrap64 (x9_2 + 1)), (by first | rfl | (simp; done) | (simp [*]; done)), (by first | rfl | (simp; done) | (simp [*]; done)), H', ⟨by have := HJ2.out; have := HK2.out; omega⟩, ⟨by (with_reducible repeat (first | apply Kd.R_alloc | apply Kd.R_drewN | apply Kd.R_drew)); exact HO_300000.out⟩, ⟨by (with_reducible repeat (first | refine blk_drewN ?_ _ | refine blk_drew ?_ | refine blk_alloc ?_ _)); exact BK285.out⟩, ⟨by (with_reducible repeat (first | refine blk_drewN ?_ _ | refine blk_drew ?_ | refine blk_alloc ?_ _)); exact BK299.out⟩, ⟨by repeat (first | (with_reducible first | exact HB.out | apply below_alloc | apply pw_below_drewN | apply below_drew1 | refine below_set ?_ GE285.out | refine below_set ?_ GE299.out) | exact HB.out)⟩⟩
          ·rw [if_neg c32] at H
           exact absurd H (by simp)
         ·rw [if_neg c30] at H
          exact absurd H (by simp)
        ·rw [if_neg c29] at H
         exact absurd H (by simp)
       ·rw [if_neg c28] at H
        exact absurd H (by simp)
      ·rw [if_neg c27] at H
       have c27b0 : decide (x9_2 < (l1.length : Int)) = false := decide_eq_false c27
       clear c27
       have HC43 := Aside0.mk H
       clear H
       go_upto_if 51 with (fail)
       go_cut [8] (fun v8 wc => ∃ (kq : Nat) (x8_42 : Int), v8 = .int .i64 x8_42 ∧ Aside0 (haywainlaw22_NetFull.j2 kq (t292.length : Int) t298 x8_42 t295 = some r) ∧ Aside0 (kq ≤ k2) ∧ Aside0 (Kd.R k23 23 wc w.heap.size (fun _ => True) (.slice Ao24 t295.length co24) t295) ∧ Aside0 (wc.heap[gb285]? = some (.cells #[(.slice A0_0 l0_0.length c0_0)] 26 (0, 0))) ∧ Aside0 (wc.heap[gb299]? = some (.cells #[(.slice Ao24 t295.length co24)] 26 (0, 0))) ∧ Aside0 (Below w.heap.size w wc))
       case first =>
        have H := HC43.out
        clear HC43
        by_cases c44 : x8_2 > (wrap64 (400 - (t292.length : Int)))
        ·rw [if_pos c44] at H
         have c44b0 : decide ((wrap64 (400 - (t292.length : Int))) < x8_2) = true := decide_eq_true c44
         clear c44
         (first | rw [c44b0] | (simp only [i64_w, i32_w]; rw [c44b0]) | skip)
         have H' := Aside0.mk H
         clear H
         go_wp2
         go_meet
         case rel => exact ⟨_, (wrap64 (400 - (t292.length : Int))), (by first | rfl | (simp; done) | (simp [*]; done)), H', ⟨by have := HJ2.out; have := HK2.out; first | omega | exact Nat.le_refl _⟩, ⟨by (with_reducible repeat (first | apply Kd.R_alloc | apply Kd.R_drewN | apply Kd.R_drew)); exact HO_300000.out⟩, ⟨by (with_reducible repeat (first | refine blk_drewN ?_ _ | refine blk_drew ?_ | refine blk_alloc ?_ _)); exact BK285.out⟩, ⟨by (with_reducible repeat (first | refine blk_drewN ?_ _ | refine blk_drew ?_ | refine blk_alloc ?_ _)); exact BK299.out⟩, ⟨by repeat (first | (with_reducible first | exact HB.out | apply below_alloc | apply pw_below_drewN | apply below_drew1 | refine below_set ?_ GE285.out | refine below_set ?_ GE299.out) | exact HB.out)⟩⟩
        ·rw [if_neg c44] at H
         have c44b0 : decide ((wrap64 (400 - (t292.length : Int))) < x8_2) = false := decide_eq_false c44
         clear c44
         (first | rw [c44b0] | (simp only [i64_w, i32_w]; rw [c44b0]) | skip)
         have H' := Aside0.mk H
         clear H
         go_wp2
         go_meet
         case rel => exact ⟨_, (x8_2), (by first | rfl | (simp; done) | (simp [*]; done)), H', ⟨by have := HJ2.out; have := HK2.out; first | omega | exact Nat.le_refl _⟩, ⟨by (with_reducible repeat (first | apply Kd.R_alloc | apply Kd.R_drewN | apply Kd.R_drew)); exact HO_300000.out⟩, ⟨by (with_reducible repeat (first | refine blk_drewN ?_ _ | refine blk_drew ?_ | refine blk_alloc ?_ _)); exact BK285.out⟩, ⟨by (with_reducible repeat (first | refine blk_drewN ?_ _ | refine blk_drew ?_ | refine blk_alloc ?_ _)); exact BK299.out⟩, ⟨by repeat (first | (with_reducible first | exact HB.out | apply below_alloc | apply pw_below_drewN | apply below_drew1 | refine below_set ?_ GE285.out | refine below_set ?_ GE299.out) | exact HB.out)⟩⟩
       case rest =>
        clear HC43
        try clear c1
        try clear c2
        try clear p2
        try clear c3
        try clear p3
        try clear q3
        try clear hx3
        try clear qi3
        try clear c4
        try clear c6
        try clear p6
        try clear c8
        try clear c9
        try clear c10
        try clear c11
        try clear c12
        try clear c15
        try clear c22
        try clear c25
        try clear c27
        try clear c27b0
        try clear c28
        try clear c28b0
        try clear c28b1
        try clear c29
        try clear c29b0
        try clear c29b1
        try clear c30
        try clear c30b0
        try clear c30b1
        try clear p30
        try clear q30
        try clear hx30
        try clear qi30
        try clear c32
        try clear c32b0
        try clear c32b1
        try clear c34
        try clear c35
        try clear q35
        try clear c39
        try clear q39
        try clear c44
        try clear c44b0
        try clear hcz16_0
        try clear hcz21_0
        try clear hcz26_0
        try clear hcz7_0
        try clear hcz9_0
        try clear hfz16_0
        try clear hfz21_0
        try clear hfz26_0
        try clear hfz7_0
        try clear hfz9_0
        try clear hx307_0
        try clear hx307_1
        try clear hx307_2
        try clear hx307_3
        try clear hx307_4
        try clear hx307_5
        try clear hx307_6
        try clear hx307_7
        try clear p2
        try clear p307
        try clear q035
        try clear q039
        try clear q307
        try clear q35
        try clear q39
        obtain ⟨kq, x8_42, rfl, HA, HJ42, HO_300000, BK285, BK299, HB⟩ := hcut
        cases kq with
        | zero => exact absurd HA.out (by simp [haywainlaw22_NetFull.j2])
        | succ kj42 =>
         have H := HA.out
         clear HA
         simp only [haywainlaw22_NetFull.j2] at H
         replace H := Option.bind_eq_some_iff.mp H
         obtain ⟨⟨t309, t312⟩, A450, H⟩ := H
         replace H : (if t298 = x8_42 then (if (t295.length : Int) = (wrap64 ((t292.length : Int) + t298)) then ((net_Right.f kj42 t295).bind fun t314 => (if t314 = true then ((net_Right.f kj42 t309).bind fun t315 => (if t315 = true then (if ((t312 == 3) == ((t295.length : Int) == 400)) = true then ((haywainlaw22_knows.f kj42).bind fun t316 => (some t316)) else (none)) else (none))) else (none))) else (none)) else (none)) = some r := H
         have A45 := Aside0.mk A450
         clear A450
         by_cases c46 : t298 = x8_42
         ·rw [if_pos c46] at H
          have c46b0 : (t298 == x8_42) = true := beq_iff_eq.mpr c46
          have c46b1 : (t298 != x8_42) = false := bne_eq_false_iff_eq.mpr c46
          clear c46
          by_cases c47 : (t295.length : Int) = (wrap64 ((t292.length : Int) + t298))
          ·rw [if_pos c47] at H
           have c47b0 : ((t295.length : Int) == (wrap64 ((t292.length : Int) + t298))) = true := beq_iff_eq.mpr c47
           have c47b1 : ((t295.length : Int) != (wrap64 ((t292.length : Int) + t298))) = false := bne_eq_false_iff_eq.mpr c47
           clear c47
           replace H := Option.bind_eq_some_iff.mp H
           obtain ⟨t314, A480, H⟩ := H
           replace H : (if t314 = true then ((net_Right.f kj42 t309).bind fun t315 => (if t315 = true then (if ((t312 == 3) == ((t295.length : Int) == 400)) = true then ((haywainlaw22_knows.f kj42).bind fun t316 => (some t316)) else (none)) else (none))) else (none)) = some r := H
           have A48 := Aside0.mk A480
           clear A480
           by_cases c49 : t314 = true
           ·subst c49
            have H1 : ((net_Right.f kj42 t309).bind fun t315 => (if t315 = true then (if ((t312 == 3) == ((t295.length : Int) == 400)) = true then ((haywainlaw22_knows.f kj42).bind fun t316 => (some t316)) else (none)) else (none))) = some r := by rw [if_pos rfl] at H; exact H
            clear H
            have H := H1
            clear H1
            replace H := Option.bind_eq_some_iff.mp H
            obtain ⟨t315, A500, H⟩ := H
            replace H : (if t315 = true then (if ((t312 == 3) == ((t295.length : Int) == 400)) = true then ((haywainlaw22_knows.f kj42).bind fun t316 => (some t316)) else (none)) else (none)) = some r := H
            have A50 := Aside0.mk A500
            clear A500
            by_cases c51 : t315 = true
            ·subst c51
             have H1 : (if ((t312 == 3) == ((t295.length : Int) == 400)) = true then ((haywainlaw22_knows.f kj42).bind fun t316 => (some t316)) else (none)) = some r := by rw [if_pos rfl] at H; exact H
             clear H
             have H := H1
             clear H1
             by_cases c52 : ((t312 == 3) == ((t295.length : Int) == 400)) = true
             ·rw [if_pos c52] at H
              have c52b0 : ((t312 == 3) == ((t295.length : Int) == 400)) = true := c52
              (try (have c52b1 : decide ((t312 == 3) = ((t295.length : Int) == 400)) = true := by simpa using c52))
              (try (have c52b2 : ((t312 == 3) == ((t295.length : Int) == 400)) = true := by simpa using c52))
              clear c52
              replace H := Option.bind_eq_some_iff.mp H
              obtain ⟨t316, A530, H⟩ := H
              replace H : (some t316) = some r := H
              have A53 := Aside0.mk A530
              clear A530
              obtain rfl := Option.some.inj H
              have hnb54 := NB299_285.out
              have hnc54 := NB285_299.out
              have hcz55_0 : wc.cell? ⟨gb299, 0, none⟩ = some (.slice Ao24 t295.length co24) := (blk_cell BK299.out 0).trans rfl
              have hfz55_0 := blk_frozen BK299.out 0
              go_wp2_with (first | ((with_reducible refine gate_callee (f := 20) rfl ?_); refine goesL_ (some 56) rfl rfl Try.func20 (by kernel_rfl) rfl #[.agg #[.slice Ao24 t295.length co24], .int .i64 0] rfl (by (try simp only [List.map_toArray, List.map_cons, List.map_nil]); first | done | rfl | (simp only [List.length_drop, List.length_take]; rfl)) ?_; (with_reducible refine (net_Twice.calls kj42 _ _ t295 0 t309 t312 _ ?side1 ?side2 A45.out).mono ?_); (case side1 => repeat (first | exact (Kd.R_reads' HO_300000.out).2.2 | (with_reducible refine Kd.C_alloc ?_ _) | (with_reducible refine Kd.C_drewN ?_ _) | (with_reducible refine Kd.C_drew ?_))); (case side2 => exact (Kd.R_reads' HO_300000.out).2.1); rintro e w56 ⟨v310, rfl, ho0, hb⟩; refine ⟨_, rfl, ?_⟩; have n0_ := Aside0.mk (Kd.R_elder' (by (with_reducible repeat (first | apply Kd.R_alloc | apply Kd.R_drewN | apply Kd.R_drew)); exact HO_300000.out) (Kd.R_base ho0) hb); have n1_ := Aside0.mk (Kd.R_lower (Kd.R_new' ho0 (Kd.R_lt (by (with_reducible repeat (first | apply Kd.R_alloc | apply Kd.R_drewN | apply Kd.R_drew)); exact HO_300000.out))) (below_size (by repeat (first | (with_reducible first | exact HB.out | apply below_alloc | apply pw_below_drewN | apply below_drew1 | refine below_set ?_ GE285.out | refine below_set ?_ GE299.out) | exact HB.out)))); have n2_ := Aside0.mk (blk_below (g := gb285) (o := .cells #[.slice A0_0 l0_0.length c0_0] 26 (0, 0)) (by (with_reducible repeat (first | refine blk_drewN ?_ _ | refine blk_drew ?_ | refine blk_alloc ?_ _)); exact BK285.out) hb); have n3_ := Aside0.mk (blk_below (g := gb299) (o := .cells #[.slice Ao24 t295.length co24] 26 (0, 0)) (by (with_reducible repeat (first | refine blk_drewN ?_ _ | refine blk_drew ?_ | refine blk_alloc ?_ _)); exact BK299.out) hb); have n4_ := Aside0.mk (below_step (by repeat (first | (with_reducible first | exact HB.out | apply below_alloc | apply pw_below_drewN | apply below_drew1 | refine below_set ?_ GE285.out | refine below_set ?_ GE299.out) | exact HB.out)) hb); clear HO_300000; clear BK285; clear BK299; clear HB; have HO_300000 := n0_; have HO311 := n1_; have BK285 := n2_; have BK299 := n3_; have HB := n4_; clear n0_ n1_ n2_ n3_ n4_; (try clear hb); (try clear hb2); (try clear hk); (try clear hi); (try clear ho0)) | ((with_reducible refine gate_dst (N := 10) rfl ?_); (try (refine gate_guard (by rfl) ?_; dsimp only)); refine box_event ?hg (N := 10) ?hd (cs := #[.slice none 0 0]) (t := 26) ?hr ?_; (case hd => rfl); (case hg => rfl); (case hr => first | (go_simp; done) | (go_simp; rfl)); intro gb313 hg w57 hbox hb; have n0_ := Aside0.mk (Kd.R_below (by (with_reducible repeat (first | apply Kd.R_alloc | apply Kd.R_drewN | apply Kd.R_drew)); exact HO_300000.out) hb); have n1_ := Aside0.mk (Kd.R_below (by (with_reducible repeat (first | apply Kd.R_alloc | apply Kd.R_drewN | apply Kd.R_drew)); exact HO311.out) hb); have n2_ := Aside0.mk (blk_below (g := gb285) (o := .cells #[.slice A0_0 l0_0.length c0_0] 26 (0, 0)) (by (with_reducible repeat (first | refine blk_drewN ?_ _ | refine blk_drew ?_ | refine blk_alloc ?_ _)); exact BK285.out) hb); have n3_ := Aside0.mk (blk_below (g := gb299) (o := .cells #[.slice Ao24 t295.length co24] 26 (0, 0)) (by (with_reducible repeat (first | refine blk_drewN ?_ _ | refine blk_drew ?_ | refine blk_alloc ?_ _)); exact BK299.out) hb); have n4_ := Aside0.mk (below_step (by repeat (first | (with_reducible first | exact HB.out | apply below_alloc | apply pw_below_drewN | apply below_drew1 | refine below_set ?_ GE285.out | refine below_set ?_ GE299.out) | exact HB.out)) hb); have n5_ := Aside0.mk (hbox); have n6_ := Aside0.mk ((by rw [hg]; exact (below_size (by repeat (first | (with_reducible first | exact HB.out | apply below_alloc | apply pw_below_drewN | apply below_drew1 | refine below_set ?_ GE285.out | refine below_set ?_ GE299.out) | exact HB.out))) : w.heap.size ≤ gb313)); have n7_ := Aside0.mk ((by rw [hg]; exact (below_size (by repeat (first | (with_reducible first | exact HB.out | apply below_alloc | apply pw_below_drewN | apply below_drew1 | refine below_set ?_ GE285.out | refine below_set ?_ GE299.out) | exact HB.out))) : w.heap.size ≤ gb313)); have n8_ := Aside0.mk ((by rw [hg]; exact Nat.ne_of_lt (blk_lt (g := gb285) (o := .cells #[.slice A0_0 l0_0.length c0_0] 26 (0, 0)) (by (with_reducible repeat (first | refine blk_drewN ?_ _ | refine blk_drew ?_ | refine blk_alloc ?_ _)); exact BK285.out)) : gb285 ≠ gb313)); have n9_ := Aside0.mk ((by rw [hg]; exact Nat.ne_of_gt (blk_lt (g := gb285) (o := .cells #[.slice A0_0 l0_0.length c0_0] 26 (0, 0)) (by (with_reducible repeat (first | refine blk_drewN ?_ _ | refine blk_drew ?_ | refine blk_alloc ?_ _)); exact BK285.out)) : gb313 ≠ gb285)); have n10_ := Aside0.mk ((by rw [hg]; exact Nat.ne_of_lt (blk_lt (g := gb299) (o := .cells #[.slice Ao24 t295.length co24] 26 (0, 0)) (by (with_reducible repeat (first | refine blk_drewN ?_ _ | refine blk_drew ?_ | refine blk_alloc ?_ _)); exact BK299.out)) : gb299 ≠ gb313)); have n11_ := Aside0.mk ((by rw [hg]; exact Nat.ne_of_gt (blk_lt (g := gb299) (o := .cells #[.slice Ao24 t295.length co24] 26 (0, 0)) (by (with_reducible repeat (first | refine blk_drewN ?_ _ | refine blk_drew ?_ | refine blk_alloc ?_ _)); exact BK299.out)) : gb313 ≠ gb299)); clear HO_300000; clear HO311; clear BK285; clear BK299; clear HB; have HO_300000 := n0_; have HO311 := n1_; have BK285 := n2_; have BK299 := n3_; have HB := n4_; have BK313 := n5_; have GW313 := n6_; have GE313 := n7_; have NB285_313 := n8_; have NB313_285 := n9_; have NB299_313 := n10_; have NB313_299 := n11_; clear n0_ n1_ n2_ n3_ n4_ n5_ n6_ n7_ n8_ n9_ n10_ n11_; clear hb hbox hg; obtain ⟨Ao58, co58, eo58⟩ := Kd.R_slice HO311.out; subst eo58; have hnb59 := NB313_285.out; have hnc59 := NB285_313.out; have hnb60 := NB313_299.out; have hnc60 := NB299_313.out; have hcz61_0 : w57.cell? ⟨gb313, 0, none⟩ = some (.slice none 0 0) := (blk_cell BK313.out 0).trans rfl; have hfz61_0 := blk_frozen BK313.out 0; have hcz62_0 : w57.cell? ⟨gb299, 0, none⟩ = some (.slice Ao24 t295.length co24) := (blk_cell BK299.out 0).trans rfl; have hfz62_0 := blk_frozen BK299.out 0) | (go_at_call 13; (with_reducible refine (net_Right.calls kj42 _ _ t295 true _ ?side1 ?side2 A48.out).mono ?_); (case side1 => refine (Kd.R_reads' (e := 23) (base := w.heap.size) (ok := fun k_ => (True ∧ some k_ ≠ (.slice Ao58 t309.length co58 : Value).ownBlock)) (n := t295.length) (c := co24) ?_).2.2; exact (by (with_reducible repeat (first | apply Kd.R_alloc | apply Kd.R_drewN | apply Kd.R_drew)); exact (Kd.R_mono (Kd.R_far (p := ⟨gb313, 0, none⟩) (Kd.R_types HO_300000.out BK313.out (by decide)) (fun _ hk => hk.2) (.slice Ao58 t309.length co58)) (fun _ h_ => h_.1)))); (case side2 => exact (Kd.R_reads' HO_300000.out).2.1); rintro e w63 ⟨rfl, hb⟩; have n0_ := Aside0.mk (Kd.R_below (by (with_reducible repeat (first | apply Kd.R_alloc | apply Kd.R_drewN | apply Kd.R_drew)); exact (Kd.R_mono (Kd.R_far (p := ⟨gb313, 0, none⟩) (Kd.R_types HO_300000.out BK313.out (by decide)) (fun _ hk => hk.2) (.slice Ao58 t309.length co58)) (fun _ h_ => h_.1))) hb); have n1_ := Aside0.mk (Kd.R_below (by (with_reducible repeat (first | apply Kd.R_alloc | apply Kd.R_drewN | apply Kd.R_drew)); exact (Kd.R_mono (Kd.R_far (p := ⟨gb313, 0, none⟩) (Kd.R_types HO311.out BK313.out (by decide)) (fun _ hk => hk.2) (.slice Ao58 t309.length co58)) (fun _ h_ => h_.1))) hb); have n2_ := Aside0.mk (blk_below (g := gb285) (o := .cells #[.slice A0_0 l0_0.length c0_0] 26 (0, 0)) (by (with_reducible repeat (first | refine blk_drewN ?_ _ | refine blk_drew ?_ | refine blk_alloc ?_ _)); refine blk_far ?_ NB285_313.out _; (with_reducible repeat (first | refine blk_drewN ?_ _ | refine blk_drew ?_ | refine blk_alloc ?_ _)); exact BK285.out) hb); have n3_ := Aside0.mk (blk_below (g := gb299) (o := .cells #[.slice Ao24 t295.length co24] 26 (0, 0)) (by (with_reducible repeat (first | refine blk_drewN ?_ _ | refine blk_drew ?_ | refine blk_alloc ?_ _)); refine blk_far ?_ NB299_313.out _; (with_reducible repeat (first | refine blk_drewN ?_ _ | refine blk_drew ?_ | refine blk_alloc ?_ _)); exact BK299.out) hb); have n4_ := Aside0.mk (blk_below (g := gb313) (o := .cells #[.slice Ao58 t309.length co58] 26 (0, 0)) (by (with_reducible repeat (first | refine blk_drewN ?_ _ | refine blk_drew ?_ | refine blk_alloc ?_ _)); refine blk_put (cs := #[.slice none 0 0]) ?_ 0 _ rfl; (with_reducible repeat (first | refine blk_drewN ?_ _ | refine blk_drew ?_ | refine blk_alloc ?_ _)); exact BK313.out) hb); have n5_ := Aside0.mk (below_step (by repeat (first | (with_reducible first | exact HB.out | apply below_alloc | apply pw_below_drewN | apply below_drew1 | refine below_set ?_ GE285.out | refine below_set ?_ GE299.out | refine below_set ?_ GE313.out) | exact HB.out)) hb); clear HO_300000; clear HO311; clear BK285; clear BK299; clear BK313; clear HB; have HO_300000 := n0_; have HO311 := n1_; have BK285 := n2_; have BK299 := n3_; have BK313 := n4_; have HB := n5_; clear n0_ n1_ n2_ n3_ n4_ n5_; (try clear hb); (try clear hb2); (try clear hk); (try clear hi); have hcz64_0 : w63.cell? ⟨gb313, 0, none⟩ = some (.slice Ao58 t309.length co58) := (blk_cell BK313.out 0).trans rfl; have hfz64_0 := blk_frozen BK313.out 0) | (go_at_call 13; (with_reducible refine (net_Right.calls kj42 _ _ t309 true _ ?side1 ?side2 A50.out).mono ?_); (case side1 => repeat (first | exact (Kd.R_reads' HO311.out).2.2 | (with_reducible refine Kd.C_alloc ?_ _) | (with_reducible refine Kd.C_drewN ?_ _) | (with_reducible refine Kd.C_drew ?_))); (case side2 => exact (Kd.R_reads' HO311.out).2.1); rintro e w65 ⟨rfl, hb⟩; have n0_ := Aside0.mk (Kd.R_below (by (with_reducible repeat (first | apply Kd.R_alloc | apply Kd.R_drewN | apply Kd.R_drew)); exact HO_300000.out) hb); have n1_ := Aside0.mk (Kd.R_below (by (with_reducible repeat (first | apply Kd.R_alloc | apply Kd.R_drewN | apply Kd.R_drew)); exact HO311.out) hb); have n2_ := Aside0.mk (blk_below (g := gb285) (o := .cells #[.slice A0_0 l0_0.length c0_0] 26 (0, 0)) (by (with_reducible repeat (first | refine blk_drewN ?_ _ | refine blk_drew ?_ | refine blk_alloc ?_ _)); exact BK285.out) hb); have n3_ := Aside0.mk (blk_below (g := gb299) (o := .cells #[.slice Ao24 t295.length co24] 26 (0, 0)) (by (with_reducible repeat (first | refine blk_drewN ?_ _ | refine blk_drew ?_ | refine blk_alloc ?_ _)); exact BK299.out) hb); have n4_ := Aside0.mk (blk_below (g := gb313) (o := .cells #[.slice Ao58 t309.length co58] 26 (0, 0)) (by (with_reducible repeat (first | refine blk_drewN ?_ _ | refine blk_drew ?_ | refine blk_alloc ?_ _)); exact BK313.out) hb); have n5_ := Aside0.mk (below_step (by repeat (first | (with_reducible first | exact HB.out | apply below_alloc | apply pw_below_drewN | apply below_drew1 | refine below_set ?_ GE285.out | refine below_set ?_ GE299.out | refine below_set ?_ GE313.out) | exact HB.out)) hb); clear HO_300000; clear HO311; clear BK285; clear BK299; clear BK313; clear HB; have HO_300000 := n0_; have HO311 := n1_; have BK285 := n2_; have BK299 := n3_; have BK313 := n4_; have HB := n5_; clear n0_ n1_ n2_ n3_ n4_ n5_; (try clear hb); (try clear hb2); (try clear hk); (try clear hi); have hcz66_0 : w65.cell? ⟨gb299, 0, none⟩ = some (.slice Ao24 t295.length co24) := (blk_cell BK299.out 0).trans rfl; have hfz66_0 := blk_frozen BK299.out 0) | (go_at_call 9; (with_reducible refine (haywainlaw22_knows.calls kj42  t316 _ A53.out).mono ?_); rintro e w67 ⟨rfl, hb⟩; have n0_ := Aside0.mk (Kd.R_below (by (with_reducible repeat (first | apply Kd.R_alloc | apply Kd.R_drewN | apply Kd.R_drew)); exact HO_300000.out) hb); have n1_ := Aside0.mk (Kd.R_below (by (with_reducible repeat (first | apply Kd.R_alloc | apply Kd.R_drewN | apply Kd.R_drew)); exact HO311.out) hb); have n2_ := Aside0.mk (blk_below (g := gb285) (o := .cells #[.slice A0_0 l0_0.length c0_0] 26 (0, 0)) (by (with_reducible repeat (first | refine blk_drewN ?_ _ | refine blk_drew ?_ | refine blk_alloc ?_ _)); exact BK285.out) hb); have n3_ := Aside0.mk (blk_below (g := gb299) (o := .cells #[.slice Ao24 t295.length co24] 26 (0, 0)) (by (with_reducible repeat (first | refine blk_drewN ?_ _ | refine blk_drew ?_ | refine blk_alloc ?_ _)); exact BK299.out) hb); have n4_ := Aside0.mk (blk_below (g := gb313) (o := .cells #[.slice Ao58 t309.length co58] 26 (0, 0)) (by (with_reducible repeat (first | refine blk_drewN ?_ _ | refine blk_drew ?_ | refine blk_alloc ?_ _)); exact BK313.out) hb); have n5_ := Aside0.mk (below_step (by repeat (first | (with_reducible first | exact HB.out | apply below_alloc | apply pw_below_drewN | apply below_drew1 | refine below_set ?_ GE285.out | refine below_set ?_ GE299.out | refine below_set ?_ GE313.out) | exact HB.out)) hb); clear HO_300000; clear HO311; clear BK285; clear BK299; clear BK313; clear HB; have HO_300000 := n0_; have HO311 := n1_; have BK285 := n2_; have BK299 := n3_; have BK313 := n4_; have HB := n5_; clear n0_ n1_ n2_ n3_ n4_ n5_; (try clear hb); (try clear hb2); (try clear hk); (try clear hi)))
              go_ret
              exact ⟨by first | rfl | (simp [errW_none, errW_some] <;> rfl) | (simp [*, errW_none, errW_some] <;> rfl), by repeat (first | (with_reducible first | exact HB.out | apply below_alloc | apply pw_below_drewN | apply below_drew1 | refine below_set ?_ GE285.out | refine below_set ?_ GE299.out | refine below_set ?_ GE313.out) | exact HB.out)⟩
             ·rw [if_neg c52] at H
              exact absurd H (by simp)
            ·replace c51 := Bool.eq_false_iff.mpr c51
             subst c51
             have H1 : (none) = some r := by rw [if_neg (show ¬ (false = true) by decide)] at H; exact H
             clear H
             have H := H1
             clear H1
             exact absurd H (by simp)
           ·replace c49 := Bool.eq_false_iff.mpr c49
            subst c49
            have H1 : (none) = some r := by rw [if_neg (show ¬ (false = true) by decide)] at H; exact H
            clear H
            have H := H1
            clear H1
            exact absurd H (by simp)
          ·rw [if_neg c47] at H
           exact absurd H (by simp)
         ·rw [if_neg c46] at H
          exact absurd H (by simp)

def okT23_NetFull (x : S23) : Prop := ((Lit.int .i64 x.f0).wf = true) ∧ ((Lit.int .i64 x.f1).wf = true) ∧ ((Lit.int .i64 x.f2).wf = true) ∧ ((Lit.int .i64 x.f3).wf = true) ∧ ((Lit.int .i64 x.f4).wf = true) ∧ ((Lit.int .i64 x.f5).wf = true) ∧ ((Lit.int .i64 x.f6).wf = true) ∧ (x.f7.size ≤ 140737488351232)
def okT26_NetFull (x : S26) : Prop := ((x.f0.length ≤ maxLen ∧ x.f0.length * 72 ≤ 140737488351232 ∧ ∀ a ∈ x.f0, okT23_NetFull a))
/-- THE ONE PURE STATEMENT of haywainlaw22_NetFull: yours. -/
def haywainlaw22_NetFull.Pure : Prop := ∀ (l0_0 : List (S23)) (l1 : List (S23)), (l0_0.length ≤ maxLen ∧ l0_0.length * 72 ≤ 140737488351232 ∧ ∀ a ∈ l0_0, okT23_NetFull a) → (l1.length ≤ maxLen ∧ l1.length * 72 ≤ 140737488351232 ∧ ∀ a ∈ l1, okT23_NetFull a) → ∃ k, haywainlaw22_NetFull.f k l0_0 l1 = some true

end Go.Proofs.Ytodjglekfamaaaa.PNet
