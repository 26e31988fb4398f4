-- Printed for this claim by a turned copy of the print (wip/tools/patch.py); a text of this session, not of print.sh.
import Derived.Test.YtgfaejkgkhdihaaPViewx0
import Derived.Test.YtgfaejkgkhdihaaPViewx7
namespace Go.Proofs.Ytgfaejkgkhdihaa.PView
open Go.RowKit Go.Proofs.YtgfaejkgkhdihaaW.PrintWords Go.Proofs.YtgfaejkgkhdihaaW.PrintLast Go.Proofs.YtgfaejkgkhdihaaW.PrintMore
attribute [local go_sem] max2_int min2_int max_two min_two max_three min_three max_four min_four   -- for this text's walks alone
set_option linter.unusedVariables false
set_option linter.unusedSimpArgs false

/-! ### haywainref11_Join: function 22 -/
mutual
def haywainref11_Join.j0 : Nat → Int → Int → Bool → Int → List (S60) → Option (Int × (List (S60)) × Int)
 | 0, _, _, _, _, _ => none
 | k + 1, x1, x2, x27, x282000, x282001 => if x27 = true then (some (x282000, x282001, 1)) else (if x282000 = 1099511627776 then (some (x282000, x282001, 6)) else ((haywainref11_Inc.f k x282000 x282001 x1).bind fun t287 => (if t287 = x2 then (some (x282000, x282001, 5)) else (if t287 > x2 then (some (x282000, x282001, 9)) else (if t287 = 0 then (haywainref11_Join.j1 k x1 x2 (decide ((x282001.length : Int) ≥ 5)) x282000 x282001) else (haywainref11_Join.j1 k x1 x2 false x282000 x282001))))))
def haywainref11_Join.j1 : Nat → Int → Int → Bool → Int → List (S60) → Option (Int × (List (S60)) × Int)
 | 0, _, _, _, _, _ => none
 | k + 1, x1, x2, x51, x282000, x282001 => if x51 = true then (some (x282000, x282001, 3)) else (haywainref11_Join.l0 k x1 x2 1 x282000 x282001 (wrap64 (x282000 + 1)) ([] : List (S60)))
def haywainref11_Join.l0 : Nat → Int → Int → Int → Int → List (S60) → Int → List (S60) → Option (Int × (List (S60)) × Int)
 | 0, _, _, _, _, _, _, _ => none
 | k + 1, x1, x2, x10, x282000, x282001, x289000, x289001 => if x10 ≤ 99 then ((haywainref11_Inc.f k x282000 x282001 x10).bind fun t289 => (if x10 = x1 then (if x2 > 0 then (if x289001.length < 8796093022208 then (haywainref11_Join.l0 k x1 x2 (wrap64 (x10 + 1)) x282000 x282001 x289000 (x289001 ++ [(⟨x10, x2⟩ : S60)])) else (none)) else (haywainref11_Join.l0 k x1 x2 (wrap64 (x10 + 1)) x282000 x282001 x289000 x289001)) else (if t289 > 0 then (if x289001.length < 8796093022208 then (haywainref11_Join.l0 k x1 x2 (wrap64 (x10 + 1)) x282000 x282001 x289000 (x289001 ++ [(⟨x10, t289⟩ : S60)])) else (none)) else (haywainref11_Join.l0 k x1 x2 (wrap64 (x10 + 1)) x282000 x282001 x289000 x289001)))) else (some (x289000, x289001, 0))
end
def haywainref11_Join.f (k : Nat) (a0_0 : Int) (l0_1 : List (S60)) (a1 : Int) (a2 : Int) : Option (Int × (List (S60)) × Int) := (haywainref11_Good.f k a0_0 l0_1).bind fun bt283 => (if a1 < 1 then (haywainref11_Join.j0 k a1 a2 true bt283.1 bt283.2) else (if a1 > 99 then (haywainref11_Join.j0 k a1 a2 true bt283.1 bt283.2) else (if a2 < 1 then (haywainref11_Join.j0 k a1 a2 true bt283.1 bt283.2) else (haywainref11_Join.j0 k a1 a2 (decide (a2 > 1099511627776)) bt283.1 bt283.2))))
theorem haywainref11_Join.mono_l : ∀ k, (∀ y0 y1 y2 y3 y4, LeO (haywainref11_Join.j0 k y0 y1 y2 y3 y4) (haywainref11_Join.j0 (k + 1) y0 y1 y2 y3 y4)) ∧ (∀ y0 y1 y2 y3 y4, LeO (haywainref11_Join.j1 k y0 y1 y2 y3 y4) (haywainref11_Join.j1 (k + 1) y0 y1 y2 y3 y4)) ∧ (∀ y0 y1 y2 y3 y4 y5 y6, LeO (haywainref11_Join.l0 k y0 y1 y2 y3 y4 y5 y6) (haywainref11_Join.l0 (k + 1) y0 y1 y2 y3 y4 y5 y6))
 | 0 => ⟨fun _ _ _ _ _ r h => by simp [haywainref11_Join.j0] at h, fun _ _ _ _ _ r h => by simp [haywainref11_Join.j1] at h, fun _ _ _ _ _ _ _ r h => by simp [haywainref11_Join.l0] at h⟩
 | k + 1 => by
  obtain ⟨ih0, ih1, ih2⟩ := haywainref11_Join.mono_l k
  refine ⟨?_, ?_, ?_⟩
  ·intro y0 y1 y2 y3 y4
   unfold haywainref11_Join.j0
   repeat' first
   | (with_reducible exact ih0 _ _ _ _ _)
   | (with_reducible exact ih1 _ _ _ _ _)
   | (with_reducible exact ih2 _ _ _ _ _ _ _)
   | (with_reducible exact haywainref11_Good.mono _ _ _)
   | (with_reducible exact haywainref11_Inc.mono _ _ _ _)
   | (with_reducible exact LeO.refl _)
   | (with_reducible exact LeO.none _)
   | (with_reducible refine LeO.ite ?_ ?_)
   | (with_reducible refine LeO.bind ?_ (fun _ => ?_))
   | exact ih0 _ _ _ _ _
   | exact ih1 _ _ _ _ _
   | exact ih2 _ _ _ _ _ _ _
   | exact haywainref11_Good.mono _ _ _
   | exact haywainref11_Inc.mono _ _ _ _
   | exact LeO.none _
   | refine LeO.ite ?_ ?_
   | refine LeO.bind ?_ (fun _ => ?_)
  ·intro y0 y1 y2 y3 y4
   unfold haywainref11_Join.j1
   repeat' first
   | (with_reducible exact ih0 _ _ _ _ _)
   | (with_reducible exact ih1 _ _ _ _ _)
   | (with_reducible exact ih2 _ _ _ _ _ _ _)
   | (with_reducible exact haywainref11_Good.mono _ _ _)
   | (with_reducible exact haywainref11_Inc.mono _ _ _ _)
   | (with_reducible exact LeO.refl _)
   | (with_reducible exact LeO.none _)
   | (with_reducible refine LeO.ite ?_ ?_)
   | (with_reducible refine LeO.bind ?_ (fun _ => ?_))
   | exact ih0 _ _ _ _ _
   | exact ih1 _ _ _ _ _
   | exact ih2 _ _ _ _ _ _ _
   | exact haywainref11_Good.mono _ _ _
   | exact haywainref11_Inc.mono _ _ _ _
   | exact LeO.none _
   | refine LeO.ite ?_ ?_
   | refine LeO.bind ?_ (fun _ => ?_)
  ·intro y0 y1 y2 y3 y4 y5 y6
   unfold haywainref11_Join.l0
   repeat' first
   | (with_reducible exact ih0 _ _ _ _ _)
   | (with_reducible exact ih1 _ _ _ _ _)
   | (with_reducible exact ih2 _ _ _ _ _ _ _)
   | (with_reducible exact haywainref11_Good.mono _ _ _)
   | (with_reducible exact haywainref11_Inc.mono _ _ _ _)
   | (with_reducible exact LeO.refl _)
   | (with_reducible exact LeO.none _)
   | (with_reducible refine LeO.ite ?_ ?_)
   | (with_reducible refine LeO.bind ?_ (fun _ => ?_))
   | exact ih0 _ _ _ _ _
   | exact ih1 _ _ _ _ _
   | exact ih2 _ _ _ _ _ _ _
   | exact haywainref11_Good.mono _ _ _
   | exact haywainref11_Inc.mono _ _ _ _
   | exact LeO.none _
   | refine LeO.ite ?_ ?_
   | refine LeO.bind ?_ (fun _ => ?_)
theorem haywainref11_Join.mono : ∀ a0 a1 a2 a3 k, LeO (haywainref11_Join.f k a0 a1 a2 a3) (haywainref11_Join.f (k + 1) a0 a1 a2 a3) := by
 intro a0 a1 a2 a3 k
 obtain ⟨ih0, ih1, ih2⟩ := haywainref11_Join.mono_l k
 unfold haywainref11_Join.f
 repeat' first
   | (with_reducible exact ih0 _ _ _ _ _)
   | (with_reducible exact ih1 _ _ _ _ _)
   | (with_reducible exact ih2 _ _ _ _ _ _ _)
   | (with_reducible exact haywainref11_Good.mono _ _ _)
   | (with_reducible exact haywainref11_Inc.mono _ _ _ _)
   | (with_reducible exact LeO.refl _)
   | (with_reducible exact LeO.none _)
   | (with_reducible refine LeO.ite ?_ ?_)
   | (with_reducible refine LeO.bind ?_ (fun _ => ?_))
   | exact ih0 _ _ _ _ _
   | exact ih1 _ _ _ _ _
   | exact ih2 _ _ _ _ _ _ _
   | exact haywainref11_Good.mono _ _ _
   | exact haywainref11_Inc.mono _ _ _ _
   | exact LeO.none _
   | refine LeO.ite ?_ ?_
   | refine LeO.bind ?_ (fun _ => ?_)
set_option maxHeartbeats 8000000 in
set_option maxRecDepth 100000 in
theorem haywainref11_Join.calls (k : Nat) (a0_0 : Int) (P0_1_ : Nat → Prop) (A0_1 : Option Addr) (c0_1 : Nat) (l0_1 : List (S60)) (a1 : Int) (a2 : Int) (r1 : Int) (r2 : List (S60)) (r3 : Int) (w : World) (hs0_1 : Kd.V k60 60 w w.heap.size (fun k_ => P0_1_ k_) (.slice A0_1 l0_1.length c0_1) l0_1) (h : haywainref11_Join.f k a0_0 l0_1 a1 a2 = some (r1, r2, r3)) :
  Calls Try.prog 22 #[.agg #[.int .i64 a0_0, .slice A0_1 l0_1.length c0_1], .int .i64 a1, .int .i64 a2] w fun e w' => ∃ v1_ : Value, e = .returned (.tuple #[.agg #[.int .i64 r1, v1_], .int .i64 r3]) ∧ Kd.V k60 60 w' w.heap.size (fun k_ => (P0_1_ k_ ∨ w.heap.size ≤ k_)) v1_ r2 ∧ Below w.heap.size w w' := by
 have hu29 := Try.underlying29
 have hu60 := Try.underlying60
 have HO0_1 := Aside0.mk (show Kd.V k60 60 w w.heap.size (fun k_ => (P0_1_ k_ ∨ w.heap.size ≤ k_)) (.slice A0_1 l0_1.length c0_1) l0_1 from Kd.V_mono hs0_1 (fun k_ hk => .inl hk))
 have HB := Aside0.mk (Below.refl w.heap.size w)
 have H : ((haywainref11_Good.f k a0_0 l0_1).bind fun bt283 => (if a1 < 1 then (haywainref11_Join.j0 k a1 a2 true bt283.1 bt283.2) else (if a1 > 99 then (haywainref11_Join.j0 k a1 a2 true bt283.1 bt283.2) else (if a2 < 1 then (haywainref11_Join.j0 k a1 a2 true bt283.1 bt283.2) else (haywainref11_Join.j0 k a1 a2 (decide (a2 > 1099511627776)) bt283.1 bt283.2))))) = some (r1, r2, r3) := h
 clear h
 replace H := Option.bind_eq_some_iff.mp H
 obtain ⟨⟨t283, t284⟩, A40, H⟩ := H
 replace H : (if a1 < 1 then (haywainref11_Join.j0 k a1 a2 true t283 t284) else (if a1 > 99 then (haywainref11_Join.j0 k a1 a2 true t283 t284) else (if a2 < 1 then (haywainref11_Join.j0 k a1 a2 true t283 t284) else (haywainref11_Join.j0 k a1 a2 (decide (a2 > 1099511627776)) t283 t284)))) = some (r1, r2, r3) := H
 have A4 := Aside0.mk A40
 clear A40
 have HC5 := Aside0.mk H
 clear H
 go_enter Try.func22, Try.ntmps22
 go_upto_region 2 with (first | ((with_reducible refine gate_dst (N := 3) rfl ?_); (try (refine gate_guard (by rfl) ?_; dsimp only)); refine box_event ?hg (N := 3) ?hd (cs := #[.int .i64 a0_0, .slice A0_1 l0_1.length c0_1]) (t := 29) ?hr ?_; (case hd => rfl); (case hg => rfl); (case hr => first | (go_simp; done) | (go_simp; rfl)); intro gb281 hg w6 hbox hb; have n0_ := Aside0.mk (Kd.V_below (Kd.V_elderB (by (with_reducible repeat (first | apply Kd.V_alloc | apply Kd.V_drewN | apply Kd.V_drew)); exact HO0_1.out) gb281 (Nat.le_of_eq hg.symm)) hb); have n1_ := Aside0.mk (below_step (by repeat (first | (with_reducible first | exact HB.out | apply below_alloc | apply pw_below_drewN | apply below_drew1) | exact HB.out)) hb); have n2_ := Aside0.mk (hbox); have n3_ := Aside0.mk ((by rw [hg]; exact (below_size (by repeat (first | (with_reducible first | exact HB.out | apply below_alloc | apply pw_below_drewN | apply below_drew1) | exact HB.out))) : w.heap.size ≤ gb281)); have n4_ := Aside0.mk ((by rw [hg]; exact (below_size (by repeat (first | (with_reducible first | exact HB.out | apply below_alloc | apply pw_below_drewN | apply below_drew1) | exact HB.out))) : w.heap.size ≤ gb281)); clear HO0_1; clear HB; have HO0_1 := n0_; have HB := n1_; have BK281 := n2_; have GW281 := n3_; have GE281 := n4_; clear n0_ n1_ n2_ n3_ n4_; clear hb hbox hg) | ((with_reducible refine gate_dst (N := 6) rfl ?_); (try (refine gate_guard (by rfl) ?_; dsimp only)); refine box_event ?hg (N := 6) ?hd (cs := #[.int .i64 0, .slice none 0 0]) (t := 29) ?hr ?_; (case hd => rfl); (case hg => rfl); (case hr => first | (go_simp; done) | (go_simp; rfl)); intro gb282 hg w7 hbox hb; have n0_ := Aside0.mk (Kd.V_below (Kd.V_elderB (by (with_reducible repeat (first | apply Kd.V_alloc | apply Kd.V_drewN | apply Kd.V_drew)); exact HO0_1.out) gb282 (Nat.le_of_eq hg.symm)) hb); have n1_ := Aside0.mk (blk_below (g := gb281) (o := .cells #[.int .i64 a0_0, .slice A0_1 l0_1.length c0_1] 29 (0, 0)) (by (with_reducible repeat (first | refine blk_drewN ?_ _ | refine blk_drew ?_ | refine blk_alloc ?_ _)); exact BK281.out) hb); have n2_ := Aside0.mk (below_step (by repeat (first | (with_reducible first | exact HB.out | apply below_alloc | apply pw_below_drewN | apply below_drew1 | refine below_set ?_ GE281.out) | exact HB.out)) hb); have n3_ := Aside0.mk (hbox); have n4_ := Aside0.mk ((by rw [hg]; exact (below_size (by repeat (first | (with_reducible first | exact HB.out | apply below_alloc | apply pw_below_drewN | apply below_drew1 | refine below_set ?_ GE281.out) | exact HB.out))) : w.heap.size ≤ gb282)); have n5_ := Aside0.mk ((by rw [hg]; exact (below_size (by repeat (first | (with_reducible first | exact HB.out | apply below_alloc | apply pw_below_drewN | apply below_drew1 | refine below_set ?_ GE281.out) | exact HB.out))) : w.heap.size ≤ gb282)); have n6_ := Aside0.mk ((by rw [hg]; exact Nat.ne_of_lt (blk_lt (g := gb281) (o := .cells #[.int .i64 a0_0, .slice A0_1 l0_1.length c0_1] 29 (0, 0)) (by (with_reducible repeat (first | refine blk_drewN ?_ _ | refine blk_drew ?_ | refine blk_alloc ?_ _)); exact BK281.out)) : gb281 ≠ gb282)); have n7_ := Aside0.mk ((by rw [hg]; exact Nat.ne_of_gt (blk_lt (g := gb281) (o := .cells #[.int .i64 a0_0, .slice A0_1 l0_1.length c0_1] 29 (0, 0)) (by (with_reducible repeat (first | refine blk_drewN ?_ _ | refine blk_drew ?_ | refine blk_alloc ?_ _)); exact BK281.out)) : gb282 ≠ gb281)); clear HO0_1; clear BK281; clear HB; have HO0_1 := n0_; have BK281 := n1_; have HB := n2_; have BK282 := n3_; have GW282 := n4_; have GE282 := n5_; have NB281_282 := n6_; have NB282_281 := n7_; clear n0_ n1_ n2_ n3_ n4_ n5_ n6_ n7_; clear hb hbox hg; have hnb8 := NB281_282.out; have hnc8 := NB282_281.out; have hcz9_0 : w7.cell? ⟨gb281, 0, none⟩ = some (.int .i64 a0_0) := (blk_cell BK281.out 0).trans rfl; have hcz9_1 : w7.cell? ⟨gb281, 1, none⟩ = some (.slice A0_1 l0_1.length c0_1) := (blk_cell BK281.out 1).trans rfl; have hfz9_0 := blk_frozen BK281.out 0; have hfz9_1 := blk_frozen BK281.out 1) | ((with_reducible refine gate_callee (f := 27) rfl ?_); refine goesL_ (some 13) rfl rfl Try.func27 (by kernel_rfl) rfl #[.agg #[.int .i64 a0_0, .slice A0_1 l0_1.length c0_1]] rfl (by (try simp only [List.map_toArray, List.map_cons, List.map_nil]); first | done | rfl | (simp only [List.length_drop, List.length_take]; rfl)) ?_; (with_reducible refine (haywainref11_Good.calls k a0_0 (fun k_ => (((P0_1_ k_ ∨ w.heap.size ≤ k_) ∧ k_ ≠ gb281) ∧ k_ ≠ gb282)) _ _ l0_1 t283 t284 _ ?side1 A4.out).mono ?_); (case side1 => exact HO0_1.out); rintro e w10 ⟨v285, rfl, ho0, hb⟩; refine ⟨_, rfl, ?_⟩; have n0_ := Aside0.mk (Kd.V_below (by (with_reducible repeat (first | apply Kd.V_alloc | apply Kd.V_drewN | apply Kd.V_drew)); exact HO0_1.out) hb); have n1_ := Aside0.mk (Kd.V_lower (Kd.V_mono (ok' := fun k_ => (P0_1_ k_ ∨ w.heap.size ≤ k_) ∧ k_ ≠ gb281 ∧ k_ ≠ gb282) ho0 (fun k_ hk_ => ⟨Or.elim hk_ (fun hs_ => hs_.1.1) (fun hn_ => (.inr (Nat.le_trans (below_size (by repeat (first | (with_reducible first | exact HB.out | apply below_alloc | apply pw_below_drewN | apply below_drew1 | refine below_set ?_ GE281.out | refine below_set ?_ GE282.out) | exact HB.out))) hn_))), Or.elim hk_ (fun hs_ => hs_.1.2) (fun hn_ => (Kd.freshB (g := gb281) (o := .cells #[.int .i64 a0_0, .slice A0_1 l0_1.length c0_1] 29 (0, 0)) (by (with_reducible repeat (first | refine blk_drewN ?_ _ | refine blk_drew ?_ | refine blk_alloc ?_ _)); exact BK281.out) k_ hn_)), Or.elim hk_ (fun hs_ => hs_.2) (fun hn_ => (Kd.freshB (g := gb282) (o := .cells #[.int .i64 0, .slice none 0 0] 29 (0, 0)) (by (with_reducible repeat (first | refine blk_drewN ?_ _ | refine blk_drew ?_ | refine blk_alloc ?_ _)); exact BK282.out) k_ hn_))⟩)) (below_size (by repeat (first | (with_reducible first | exact HB.out | apply below_alloc | apply pw_below_drewN | apply below_drew1 | refine below_set ?_ GE281.out | refine below_set ?_ GE282.out) | exact HB.out)))); have n2_ := Aside0.mk (blk_below (g := gb281) (o := .cells #[.int .i64 a0_0, .slice A0_1 l0_1.length c0_1] 29 (0, 0)) (by (with_reducible repeat (first | refine blk_drewN ?_ _ | refine blk_drew ?_ | refine blk_alloc ?_ _)); exact BK281.out) hb); have n3_ := Aside0.mk (blk_below (g := gb282) (o := .cells #[.int .i64 0, .slice none 0 0] 29 (0, 0)) (by (with_reducible repeat (first | refine blk_drewN ?_ _ | refine blk_drew ?_ | refine blk_alloc ?_ _)); exact BK282.out) hb); have n4_ := Aside0.mk (below_step (by repeat (first | (with_reducible first | exact HB.out | apply below_alloc | apply pw_below_drewN | apply below_drew1 | refine below_set ?_ GE281.out | refine below_set ?_ GE282.out) | exact HB.out)) hb); clear HO0_1; clear BK281; clear BK282; clear HB; have HO0_1 := n0_; have HO286 := n1_; have BK281 := n2_; have BK282 := n3_; have HB := n4_; clear n0_ n1_ n2_ n3_ n4_; (try clear hb); (try clear hb2); (try clear hk); (try clear hi); (try clear ho0); have hcz11_0 : w10.cell? ⟨gb281, 0, none⟩ = some (.int .i64 a0_0) := (blk_cell BK281.out 0).trans rfl; have hcz11_1 : w10.cell? ⟨gb281, 1, none⟩ = some (.slice A0_1 l0_1.length c0_1) := (blk_cell BK281.out 1).trans rfl; have hfz11_0 := blk_frozen BK281.out 0; have hfz11_1 := blk_frozen BK281.out 1; obtain ⟨Ao12, co12, eo12⟩ := Kd.V_slice HO286.out; subst eo12))
 (try simp only [Act.put, List.setIfInBounds_toArray, List.set_cons_zero, List.set_cons_succ])
 go_cut [27] (fun v27 wc => ∃ (kq : Nat) (x27_4 : Bool), v27 = .bool x27_4 ∧ Aside0 (haywainref11_Join.j0 kq a1 a2 x27_4 t283 t284 = some (r1, r2, r3)) ∧ Aside0 (kq ≤ k) ∧ Aside0 (Kd.V k60 60 wc w.heap.size (fun k_ => (P0_1_ k_ ∨ w.heap.size ≤ k_) ∧ k_ ≠ gb281 ∧ k_ ≠ gb282) (.slice Ao12 t284.length co12) t284) ∧ Aside0 (wc.heap[gb281]? = some (.cells #[.int .i64 t283, (.slice Ao12 t284.length co12)] 29 (0, 0))) ∧ Aside0 (wc.heap[gb282]? = some (.cells #[.int .i64 0, (.slice none 0 0)] 29 (0, 0))) ∧ Aside0 (Below w.heap.size w wc))
 case first =>
  have H := HC5.out
  clear HC5
  by_cases c13 : a1 < 1
  ·rw [if_pos c13] at H
   have c13b0 : decide (a1 < 1) = true := decide_eq_true c13
   clear c13
   (first | rw [c13b0] | (simp only [i64_w, i32_w]; rw [c13b0]) | skip)
   have H' := Aside0.mk H
   clear H
   go_wp2
   go_meet
   case rel => exact ⟨_, (true), (by first | rfl | (simp; done) | (simp [*]; done)), H', ⟨by first | omega | exact Nat.le_refl _⟩, ⟨by (with_reducible repeat (first | apply Kd.V_alloc | apply Kd.V_drewN | apply Kd.V_drew)); exact Kd.V_mono (Kd.V_far (p := ⟨gb281, 1, none⟩) (Kd.V_far (p := ⟨gb281, 0, none⟩) (Kd.V_mono HO286.out (fun k_ hk => (⟨hk, hk.2.1⟩ : _ ∧ k_ ≠ gb281))) (fun _ hk => hk.2) (.int .i64 t283)) (fun _ hk => hk.2) (.slice Ao12 t284.length co12)) (fun _ hk => ⟨hk.1.1, ⟨hk.1.2.1, hk.1.2.2⟩⟩)⟩, ⟨by (with_reducible repeat (first | refine blk_drewN ?_ _ | refine blk_drew ?_ | refine blk_alloc ?_ _)); refine blk_put (cs := #[.int .i64 t283, .slice A0_1 l0_1.length c0_1]) ?_ 1 _ rfl; (with_reducible repeat (first | refine blk_drewN ?_ _ | refine blk_drew ?_ | refine blk_alloc ?_ _)); refine blk_put (cs := #[.int .i64 a0_0, .slice A0_1 l0_1.length c0_1]) ?_ 0 _ rfl; (with_reducible repeat (first | refine blk_drewN ?_ _ | refine blk_drew ?_ | refine blk_alloc ?_ _)); exact BK281.out⟩, ⟨by (with_reducible repeat (first | refine blk_drewN ?_ _ | refine blk_drew ?_ | refine blk_alloc ?_ _)); refine blk_far ?_ NB282_281.out _; (with_reducible repeat (first | refine blk_drewN ?_ _ | refine blk_drew ?_ | refine blk_alloc ?_ _)); refine blk_far ?_ NB282_281.out _; (with_reducible repeat (first | refine blk_drewN ?_ _ | refine blk_drew ?_ | refine blk_alloc ?_ _)); exact BK282.out⟩, ⟨by repeat (first | (with_reducible first | exact HB.out | apply below_alloc | apply pw_below_drewN | apply below_drew1 | refine below_set ?_ GE281.out | refine below_set ?_ GE282.out) | exact HB.out)⟩⟩
  ·rw [if_neg c13] at H
   have c13b0 : decide (a1 < 1) = false := decide_eq_false c13
   clear c13
   (first | rw [c13b0] | (simp only [i64_w, i32_w]; rw [c13b0]) | skip)
   by_cases c14 : a1 > 99
   ·rw [if_pos c14] at H
    have c14b0 : decide (99 < a1) = true := decide_eq_true c14
    clear c14
    have H' := Aside0.mk H
    clear H
    go_wp2
    go_meet
    case rel => exact ⟨_, (true), (by first | rfl | (simp; done) | (simp [*]; done)), H', ⟨by first | omega | exact Nat.le_refl _⟩, ⟨by (with_reducible repeat (first | apply Kd.V_alloc | apply Kd.V_drewN | apply Kd.V_drew)); exact Kd.V_mono (Kd.V_far (p := ⟨gb281, 1, none⟩) (Kd.V_far (p := ⟨gb281, 0, none⟩) (Kd.V_mono HO286.out (fun k_ hk => (⟨hk, hk.2.1⟩ : _ ∧ k_ ≠ gb281))) (fun _ hk => hk.2) (.int .i64 t283)) (fun _ hk => hk.2) (.slice Ao12 t284.length co12)) (fun _ hk => ⟨hk.1.1, ⟨hk.1.2.1, hk.1.2.2⟩⟩)⟩, ⟨by (with_reducible repeat (first | refine blk_drewN ?_ _ | refine blk_drew ?_ | refine blk_alloc ?_ _)); refine blk_put (cs := #[.int .i64 t283, .slice A0_1 l0_1.length c0_1]) ?_ 1 _ rfl; (with_reducible repeat (first | refine blk_drewN ?_ _ | refine blk_drew ?_ | refine blk_alloc ?_ _)); refine blk_put (cs := #[.int .i64 a0_0, .slice A0_1 l0_1.length c0_1]) ?_ 0 _ rfl; (with_reducible repeat (first | refine blk_drewN ?_ _ | refine blk_drew ?_ | refine blk_alloc ?_ _)); exact BK281.out⟩, ⟨by (with_reducible repeat (first | refine blk_drewN ?_ _ | refine blk_drew ?_ | refine blk_alloc ?_ _)); refine blk_far ?_ NB282_281.out _; (with_reducible repeat (first | refine blk_drewN ?_ _ | refine blk_drew ?_ | refine blk_alloc ?_ _)); refine blk_far ?_ NB282_281.out _; (with_reducible repeat (first | refine blk_drewN ?_ _ | refine blk_drew ?_ | refine blk_alloc ?_ _)); exact BK282.out⟩, ⟨by repeat (first | (with_reducible first | exact HB.out | apply below_alloc | apply pw_below_drewN | apply below_drew1 | refine below_set ?_ GE281.out | refine below_set ?_ GE282.out) | exact HB.out)⟩⟩
   ·rw [if_neg c14] at H
    have c14b0 : decide (99 < a1) = false := decide_eq_false c14
    clear c14
    by_cases c15 : a2 < 1
    ·rw [if_pos c15] at H
     have c15b0 : decide (a2 < 1) = true := decide_eq_true c15
     clear c15
     have H' := Aside0.mk H
     clear H
     go_wp2
     go_meet
     case rel => exact ⟨_, (true), (by first | rfl | (simp; done) | (simp [*]; done)), H', ⟨by first | omega | exact Nat.le_refl _⟩, ⟨by (with_reducible repeat (first | apply Kd.V_alloc | apply Kd.V_drewN | apply Kd.V_drew)); exact Kd.V_mono (Kd.V_far (p := ⟨gb281, 1, none⟩) (Kd.V_far (p := ⟨gb281, 0, none⟩) (Kd.V_mono HO286.out (fun k_ hk => (⟨hk, hk.2.1⟩ : _ ∧ k_ ≠ gb281))) (fun _ hk => hk.2) (.int .i64 t283)) (fun _ hk => hk.2) (.slice Ao12 t284.length co12)) (fun _ hk => ⟨hk.1.1, ⟨hk.1.2.1, hk.1.2.2⟩⟩)⟩, ⟨by (with_reducible repeat (first | refine blk_drewN ?_ _ | refine blk_drew ?_ | refine blk_alloc ?_ _)); refine blk_put (cs := #[.int .i64 t283, .slice A0_1 l0_1.length c0_1]) ?_ 1 _ rfl; (with_reducible repeat (first | refine blk_drewN ?_ _ | refine blk_drew ?_ | refine blk_alloc ?_ _)); refine blk_put (cs := #[.int .i64 a0_0, .slice A0_1 l0_1.length c0_1]) ?_ 0 _ rfl; (with_reducible repeat (first | refine blk_drewN ?_ _ | refine blk_drew ?_ | refine blk_alloc ?_ _)); exact BK281.out⟩, ⟨by (with_reducible repeat (first | refine blk_drewN ?_ _ | refine blk_drew ?_ | refine blk_alloc ?_ _)); refine blk_far ?_ NB282_281.out _; (with_reducible repeat (first | refine blk_drewN ?_ _ | refine blk_drew ?_ | refine blk_alloc ?_ _)); refine blk_far ?_ NB282_281.out _; (with_reducible repeat (first | refine blk_drewN ?_ _ | refine blk_drew ?_ | refine blk_alloc ?_ _)); exact BK282.out⟩, ⟨by repeat (first | (with_reducible first | exact HB.out | apply below_alloc | apply pw_below_drewN | apply below_drew1 | refine below_set ?_ GE281.out | refine below_set ?_ GE282.out) | exact HB.out)⟩⟩
    ·rw [if_neg c15] at H
     have c15b0 : decide (a2 < 1) = false := decide_eq_false c15
     clear c15
     have H' := Aside0.mk H
     clear H
     go_wp2
     go_meet
     case rel => exact ⟨_, (decide (a2 > 1099511627776)), (by first | rfl | (simp; done) | (simp [*]; done)), H', ⟨by first | omega | exact Nat.le_refl _⟩, ⟨by (with_reducible repeat (first | apply Kd.V_alloc | apply Kd.V_drewN | apply Kd.V_drew)); exact Kd.V_mono (Kd.V_far (p := ⟨gb281, 1, none⟩) (Kd.V_far (p := ⟨gb281, 0, none⟩) (Kd.V_mono HO286.out (fun k_ hk => (⟨hk, hk.2.1⟩ : _ ∧ k_ ≠ gb281))) (fun _ hk => hk.2) (.int .i64 t283)) (fun _ hk => hk.2) (.slice Ao12 t284.length co12)) (fun _ hk => ⟨hk.1.1, ⟨hk.1.2.1, hk.1.2.2⟩⟩)⟩, ⟨by (with_reducible repeat (first | refine blk_drewN ?_ _ | refine blk_drew ?_ | refine blk_alloc ?_ _)); refine blk_put (cs := #[.int .i64 t283, .slice A0_1 l0_1.length c0_1]) ?_ 1 _ rfl; (with_reducible repeat (first | refine blk_drewN ?_ _ | refine blk_drew ?_ | refine blk_alloc ?_ _)); refine blk_put (cs := #[.int .i64 a0_0, .slice A0_1 l0_1.length c0_1]) ?_ 0 _ rfl; (with_reducible repeat (first | refine blk_drewN ?_ _ | refine blk_drew ?_ | refine blk_alloc ?_ _)); exact BK281.out⟩, ⟨by (with_reducible repeat (first | refine blk_drewN ?_ _ | refine blk_drew ?_ | refine blk_alloc ?_ _)); refine blk_far ?_ NB282_281.out _; (with_reducible repeat (first | refine blk_drewN ?_ _ | refine blk_drew ?_ | refine blk_alloc ?_ _)); refine blk_far ?_ NB282_281.out _; (with_reducible repeat (first | refine blk_drewN ?_ _ | refine blk_drew ?_ | refine blk_alloc ?_ _)); exact BK282.out⟩, ⟨by repeat (first | (with_reducible first | exact HB.out | apply below_alloc | apply pw_below_drewN | apply below_drew1 | refine below_set ?_ GE281.out | refine below_set ?_ GE282.out) | exact HB.out)⟩⟩
 case rest =>
  clear HC5
  try clear c1
  try clear c2
  try clear p2
  try clear c8
  try clear c13
  try clear c13b0
  try clear c14
  try clear c14b0
  try clear c15
  try clear c15b0
  try clear hcz11_0
  try clear hcz11_1
  try clear hcz9_0
  try clear hcz9_1
  try clear hfz11_0
  try clear hfz11_1
  try clear hfz9_0
  try clear hfz9_1
  obtain ⟨kq, x27_4, rfl, HA, HJ4, HO_282001, BK281, BK282, HB⟩ := hcut
  cases kq with
  | zero => exact absurd HA.out (by simp [haywainref11_Join.j0])
  | succ kj4 =>
   have H := HA.out
   clear HA
   simp only [haywainref11_Join.j0] at H
   by_cases c16 : x27_4 = true
   ·subst c16
    have H1 : (some (t283, t284, 1)) = some (r1, r2, r3) := by rw [if_pos rfl] at H; exact H
    clear H
    have H := H1
    clear H1
    simp only [Option.some.injEq, Prod.mk.injEq] at H
    obtain ⟨rfl, rfl, rfl⟩ := H
    have hnb17 := NB281_282.out
    have hnc17 := NB282_281.out
    have hcz18_0 : wc.cell? ⟨gb281, 0, none⟩ = some (.int .i64 t283) := (blk_cell BK281.out 0).trans rfl
    have hcz18_1 : wc.cell? ⟨gb281, 1, none⟩ = some (.slice Ao12 t284.length co12) := (blk_cell BK281.out 1).trans rfl
    have hfz18_0 := blk_frozen BK281.out 0
    have hfz18_1 := blk_frozen BK281.out 1
    have hcz19_0 : wc.cell? ⟨gb282, 0, none⟩ = some (.int .i64 0) := (blk_cell BK282.out 0).trans rfl
    have hcz19_1 : wc.cell? ⟨gb282, 1, none⟩ = some (.slice none 0 0) := (blk_cell BK282.out 1).trans rfl
    have hfz19_0 := blk_frozen BK282.out 0
    have hfz19_1 := blk_frozen BK282.out 1
    go_wp2
    refine bodyPost_ret (results_ct rfl _ _ gb282 29 #[.int .i64 t283, .slice Ao12 t284.length co12] (0, 0) _ rfl (by (with_reducible repeat (first | refine blk_drewN ?_ _ | refine blk_drew ?_ | refine blk_alloc ?_ _)); refine blk_put (cs := #[.int .i64 t283, .slice none 0 0]) ?_ 1 _ rfl; (with_reducible repeat (first | refine blk_drewN ?_ _ | refine blk_drew ?_ | refine blk_alloc ?_ _)); refine blk_put (cs := #[.int .i64 0, .slice none 0 0]) ?_ 0 _ rfl; (with_reducible repeat (first | refine blk_drewN ?_ _ | refine blk_drew ?_ | refine blk_alloc ?_ _)); exact BK282.out) Try.underlying29 rfl (by kernel_rfl)) rfl ?_
    exact ⟨_, by first | rfl | (simp [errW_none, errW_some] <;> rfl) | (simp [*, errW_none, errW_some] <;> rfl), by (with_reducible repeat (first | apply Kd.V_alloc | apply Kd.V_drewN | apply Kd.V_drew)); exact Kd.V_mono (Kd.V_far (p := ⟨gb282, 1, none⟩) (Kd.V_far (p := ⟨gb282, 0, none⟩) (Kd.V_mono HO_282001.out (fun k_ hk => (⟨hk, hk.2.2⟩ : _ ∧ k_ ≠ gb282))) (fun _ hk => hk.2) (.int .i64 t283)) (fun _ hk => hk.2) (.slice Ao12 t284.length co12)) (fun _ hk => hk.1.1), by repeat (first | (with_reducible first | exact HB.out | apply below_alloc | apply pw_below_drewN | apply below_drew1 | refine below_set ?_ GE281.out | refine below_set ?_ GE282.out) | exact HB.out)⟩
   ·replace c16 := Bool.eq_false_iff.mpr c16
    subst c16
    have H1 : (if t283 = 1099511627776 then (some (t283, t284, 6)) else ((haywainref11_Inc.f kj4 t283 t284 a1).bind fun t287 => (if t287 = a2 then (some (t283, t284, 5)) else (if t287 > a2 then (some (t283, t284, 9)) else (if t287 = 0 then (haywainref11_Join.j1 kj4 a1 a2 (decide ((t284.length : Int) ≥ 5)) t283 t284) else (haywainref11_Join.j1 kj4 a1 a2 false t283 t284)))))) = some (r1, r2, r3) := by rw [if_neg (show ¬ (false = true) by decide)] at H; exact H
    clear H
    have H := H1
    clear H1
    by_cases c20 : t283 = 1099511627776
    ·rw [if_pos c20] at H
     have c20b0 : (t283 == 1099511627776) = true := beq_iff_eq.mpr c20
     have c20b1 : (t283 != 1099511627776) = false := bne_eq_false_iff_eq.mpr c20
     clear c20
     simp only [Option.some.injEq, Prod.mk.injEq] at H
     obtain ⟨rfl, rfl, rfl⟩ := H
     have hnb21 := NB281_282.out
     have hnc21 := NB282_281.out
     have hcz22_0 : wc.cell? ⟨gb281, 0, none⟩ = some (.int .i64 t283) := (blk_cell BK281.out 0).trans rfl
     have hcz22_1 : wc.cell? ⟨gb281, 1, none⟩ = some (.slice Ao12 t284.length co12) := (blk_cell BK281.out 1).trans rfl
     have hfz22_0 := blk_frozen BK281.out 0
     have hfz22_1 := blk_frozen BK281.out 1
     have hcz23_0 : wc.cell? ⟨gb282, 0, none⟩ = some (.int .i64 0) := (blk_cell BK282.out 0).trans rfl
     have hcz23_1 : wc.cell? ⟨gb282, 1, none⟩ = some (.slice none 0 0) := (blk_cell BK282.out 1).trans rfl
     have hfz23_0 := blk_frozen BK282.out 0
     have hfz23_1 := blk_frozen BK282.out 1
     go_wp2
     refine bodyPost_ret (results_ct rfl _ _ gb282 29 #[.int .i64 t283, .slice Ao12 t284.length co12] (0, 0) _ rfl (by (with_reducible repeat (first | refine blk_drewN ?_ _ | refine blk_drew ?_ | refine blk_alloc ?_ _)); refine blk_put (cs := #[.int .i64 t283, .slice none 0 0]) ?_ 1 _ rfl; (with_reducible repeat (first | refine blk_drewN ?_ _ | refine blk_drew ?_ | refine blk_alloc ?_ _)); refine blk_put (cs := #[.int .i64 0, .slice none 0 0]) ?_ 0 _ rfl; (with_reducible repeat (first | refine blk_drewN ?_ _ | refine blk_drew ?_ | refine blk_alloc ?_ _)); exact BK282.out) Try.underlying29 rfl (by kernel_rfl)) rfl ?_
     exact ⟨_, by first | rfl | (simp [errW_none, errW_some] <;> rfl) | (simp [*, errW_none, errW_some] <;> rfl), by (with_reducible repeat (first | apply Kd.V_alloc | apply Kd.V_drewN | apply Kd.V_drew)); exact Kd.V_mono (Kd.V_far (p := ⟨gb282, 1, none⟩) (Kd.V_far (p := ⟨gb282, 0, none⟩) (Kd.V_mono HO_282001.out (fun k_ hk => (⟨hk, hk.2.2⟩ : _ ∧ k_ ≠ gb282))) (fun _ hk => hk.2) (.int .i64 t283)) (fun _ hk => hk.2) (.slice Ao12 t284.length co12)) (fun _ hk => hk.1.1), by repeat (first | (with_reducible first | exact HB.out | apply below_alloc | apply pw_below_drewN | apply below_drew1 | refine below_set ?_ GE281.out | refine below_set ?_ GE282.out) | exact HB.out)⟩
    ·rw [if_neg c20] at H
     have c20b0 : (t283 == 1099511627776) = false := beq_eq_false_iff_ne.mpr c20
     have c20b1 : (t283 != 1099511627776) = true := bne_iff_ne.mpr c20
     replace H := Option.bind_eq_some_iff.mp H
     obtain ⟨t287, A240, H⟩ := H
     replace H : (if t287 = a2 then (some (t283, t284, 5)) else (if t287 > a2 then (some (t283, t284, 9)) else (if t287 = 0 then (haywainref11_Join.j1 kj4 a1 a2 (decide ((t284.length : Int) ≥ 5)) t283 t284) else (haywainref11_Join.j1 kj4 a1 a2 false t283 t284)))) = some (r1, r2, r3) := H
     have A24 := Aside0.mk A240
     clear A240
     by_cases c25 : t287 = a2
     ·rw [if_pos c25] at H
      have c25b0 : (t287 == a2) = true := beq_iff_eq.mpr c25
      have c25b1 : (t287 != a2) = false := bne_eq_false_iff_eq.mpr c25
      clear c25
      simp only [Option.some.injEq, Prod.mk.injEq] at H
      obtain ⟨rfl, rfl, rfl⟩ := H
      have hnb26 := NB281_282.out
      have hnc26 := NB282_281.out
      have hcz27_0 : wc.cell? ⟨gb281, 0, none⟩ = some (.int .i64 t283) := (blk_cell BK281.out 0).trans rfl
      have hcz27_1 : wc.cell? ⟨gb281, 1, none⟩ = some (.slice Ao12 t284.length co12) := (blk_cell BK281.out 1).trans rfl
      have hfz27_0 := blk_frozen BK281.out 0
      have hfz27_1 := blk_frozen BK281.out 1
      go_wp2_with (first | ((with_reducible refine gate_callee (f := 13) rfl ?_); refine goesL_ (some 35) rfl rfl Try.func13 (by kernel_rfl) rfl #[.agg #[.int .i64 t283, .slice Ao12 t284.length co12], .int .i64 a1] rfl (by (try simp only [List.map_toArray, List.map_cons, List.map_nil]); first | done | rfl | (simp only [List.length_drop, List.length_take]; rfl)) ?_; (with_reducible refine (haywainref11_Inc.calls kj4 t283 _ _ t284 a1 t287 _ ?side1 ?side2 A24.out).mono ?_); (case side1 => repeat (first | exact (Kd.V_reads' HO_282001.out).2.2 | (with_reducible refine Kd.C_alloc ?_ _) | (with_reducible refine Kd.C_drewN ?_ _) | (with_reducible refine Kd.C_drew ?_))); (case side2 => exact (Kd.V_reads' HO_282001.out).2.1); rintro e w28 ⟨rfl, hb⟩; refine ⟨_, rfl, ?_⟩; have n0_ := Aside0.mk (Kd.V_below (by (with_reducible repeat (first | apply Kd.V_alloc | apply Kd.V_drewN | apply Kd.V_drew)); exact HO_282001.out) hb); have n1_ := Aside0.mk (blk_below (g := gb281) (o := .cells #[.int .i64 t283, .slice Ao12 t284.length co12] 29 (0, 0)) (by (with_reducible repeat (first | refine blk_drewN ?_ _ | refine blk_drew ?_ | refine blk_alloc ?_ _)); exact BK281.out) hb); have n2_ := Aside0.mk (blk_below (g := gb282) (o := .cells #[.int .i64 0, .slice none 0 0] 29 (0, 0)) (by (with_reducible repeat (first | refine blk_drewN ?_ _ | refine blk_drew ?_ | refine blk_alloc ?_ _)); exact BK282.out) hb); have n3_ := Aside0.mk (below_step (by repeat (first | (with_reducible first | exact HB.out | apply below_alloc | apply pw_below_drewN | apply below_drew1 | refine below_set ?_ GE281.out | refine below_set ?_ GE282.out) | exact HB.out)) hb); clear HO_282001; clear BK281; clear BK282; clear HB; have HO_282001 := n0_; have BK281 := n1_; have BK282 := n2_; have HB := n3_; clear n0_ n1_ n2_ n3_; (try clear hb); (try clear hb2); (try clear hk); (try clear hi); have hcz29_0 : w28.cell? ⟨gb281, 0, none⟩ = some (.int .i64 t283) := (blk_cell BK281.out 0).trans rfl; have hcz29_1 : w28.cell? ⟨gb281, 1, none⟩ = some (.slice Ao12 t284.length co12) := (blk_cell BK281.out 1).trans rfl; have hfz29_0 := blk_frozen BK281.out 0; have hfz29_1 := blk_frozen BK281.out 1; have hcz30_0 : w28.cell? ⟨gb282, 0, none⟩ = some (.int .i64 0) := (blk_cell BK282.out 0).trans rfl; have hcz30_1 : w28.cell? ⟨gb282, 1, none⟩ = some (.slice none 0 0) := (blk_cell BK282.out 1).trans rfl; have hfz30_0 := blk_frozen BK282.out 0; have hfz30_1 := blk_frozen BK282.out 1))
      refine bodyPost_ret (results_ct rfl _ _ gb282 29 #[.int .i64 t283, .slice Ao12 t284.length co12] (0, 0) _ rfl (by (with_reducible repeat (first | refine blk_drewN ?_ _ | refine blk_drew ?_ | refine blk_alloc ?_ _)); refine blk_put (cs := #[.int .i64 t283, .slice none 0 0]) ?_ 1 _ rfl; (with_reducible repeat (first | refine blk_drewN ?_ _ | refine blk_drew ?_ | refine blk_alloc ?_ _)); refine blk_put (cs := #[.int .i64 0, .slice none 0 0]) ?_ 0 _ rfl; (with_reducible repeat (first | refine blk_drewN ?_ _ | refine blk_drew ?_ | refine blk_alloc ?_ _)); exact BK282.out) Try.underlying29 rfl (by kernel_rfl)) rfl ?_
      exact ⟨_, by first | rfl | (simp [errW_none, errW_some] <;> rfl) | (simp [*, errW_none, errW_some] <;> rfl), by (with_reducible repeat (first | apply Kd.V_alloc | apply Kd.V_drewN | apply Kd.V_drew)); exact Kd.V_mono (Kd.V_far (p := ⟨gb282, 1, none⟩) (Kd.V_far (p := ⟨gb282, 0, none⟩) (Kd.V_mono HO_282001.out (fun k_ hk => (⟨hk, hk.2.2⟩ : _ ∧ k_ ≠ gb282))) (fun _ hk => hk.2) (.int .i64 t283)) (fun _ hk => hk.2) (.slice Ao12 t284.length co12)) (fun _ hk => hk.1.1), by repeat (first | (with_reducible first | exact HB.out | apply below_alloc | apply pw_below_drewN | apply below_drew1 | refine below_set ?_ GE281.out | refine below_set ?_ GE282.out) | exact HB.out)⟩
     ·rw [if_neg c25] at H
      have c25b0 : (t287 == a2) = false := beq_eq_false_iff_ne.mpr c25
      have c25b1 : (t287 != a2) = true := bne_iff_ne.mpr c25
      by_cases c31 : t287 > a2
      ·rw [if_pos c31] at H
       have c31b0 : decide (a2 < t287) = true := decide_eq_true c31
       clear c31
       simp only [Option.some.injEq, Prod.mk.injEq] at H
       obtain ⟨rfl, rfl, rfl⟩ := H
       have hnb32 := NB281_282.out
       have hnc32 := NB282_281.out
       have hcz33_0 : wc.cell? ⟨gb281, 0, none⟩ = some (.int .i64 t283) := (blk_cell BK281.out 0).trans rfl
       have hcz33_1 : wc.cell? ⟨gb281, 1, none⟩ = some (.slice Ao12 t284.length co12) := (blk_cell BK281.out 1).trans rfl
       have hfz33_0 := blk_frozen BK281.out 0
       have hfz33_1 := blk_frozen BK281.out 1
       go_wp2_with (first | ((with_reducible refine gate_callee (f := 13) rfl ?_); refine goesL_ (some 35) rfl rfl Try.func13 (by kernel_rfl) rfl #[.agg #[.int .i64 t283, .slice Ao12 t284.length co12], .int .i64 a1] rfl (by (try simp only [List.map_toArray, List.map_cons, List.map_nil]); first | done | rfl | (simp only [List.length_drop, List.length_take]; rfl)) ?_; (with_reducible refine (haywainref11_Inc.calls kj4 t283 _ _ t284 a1 t287 _ ?side1 ?side2 A24.out).mono ?_); (case side1 => repeat (first | exact (Kd.V_reads' HO_282001.out).2.2 | (with_reducible refine Kd.C_alloc ?_ _) | (with_reducible refine Kd.C_drewN ?_ _) | (with_reducible refine Kd.C_drew ?_))); (case side2 => exact (Kd.V_reads' HO_282001.out).2.1); rintro e w34 ⟨rfl, hb⟩; refine ⟨_, rfl, ?_⟩; have n0_ := Aside0.mk (Kd.V_below (by (with_reducible repeat (first | apply Kd.V_alloc | apply Kd.V_drewN | apply Kd.V_drew)); exact HO_282001.out) hb); have n1_ := Aside0.mk (blk_below (g := gb281) (o := .cells #[.int .i64 t283, .slice Ao12 t284.length co12] 29 (0, 0)) (by (with_reducible repeat (first | refine blk_drewN ?_ _ | refine blk_drew ?_ | refine blk_alloc ?_ _)); exact BK281.out) hb); have n2_ := Aside0.mk (blk_below (g := gb282) (o := .cells #[.int .i64 0, .slice none 0 0] 29 (0, 0)) (by (with_reducible repeat (first | refine blk_drewN ?_ _ | refine blk_drew ?_ | refine blk_alloc ?_ _)); exact BK282.out) hb); have n3_ := Aside0.mk (below_step (by repeat (first | (with_reducible first | exact HB.out | apply below_alloc | apply pw_below_drewN | apply below_drew1 | refine below_set ?_ GE281.out | refine below_set ?_ GE282.out) | exact HB.out)) hb); clear HO_282001; clear BK281; clear BK282; clear HB; have HO_282001 := n0_; have BK281 := n1_; have BK282 := n2_; have HB := n3_; clear n0_ n1_ n2_ n3_; (try clear hb); (try clear hb2); (try clear hk); (try clear hi); have hcz35_0 : w34.cell? ⟨gb281, 0, none⟩ = some (.int .i64 t283) := (blk_cell BK281.out 0).trans rfl; have hcz35_1 : w34.cell? ⟨gb281, 1, none⟩ = some (.slice Ao12 t284.length co12) := (blk_cell BK281.out 1).trans rfl; have hfz35_0 := blk_frozen BK281.out 0; have hfz35_1 := blk_frozen BK281.out 1; have hcz36_0 : w34.cell? ⟨gb282, 0, none⟩ = some (.int .i64 0) := (blk_cell BK282.out 0).trans rfl; have hcz36_1 : w34.cell? ⟨gb282, 1, none⟩ = some (.slice none 0 0) := (blk_cell BK282.out 1).trans rfl; have hfz36_0 := blk_frozen BK282.out 0; have hfz36_1 := blk_frozen BK282.out 1))
       refine bodyPost_ret (results_ct rfl _ _ gb282 29 #[.int .i64 t283, .slice Ao12 t284.length co12] (0, 0) _ rfl (by (with_reducible repeat (first | refine blk_drewN ?_ _ | refine blk_drew ?_ | refine blk_alloc ?_ _)); refine blk_put (cs := #[.int .i64 t283, .slice none 0 0]) ?_ 1 _ rfl; (with_reducible repeat (first | refine blk_drewN ?_ _ | refine blk_drew ?_ | refine blk_alloc ?_ _)); refine blk_put (cs := #[.int .i64 0, .slice none 0 0]) ?_ 0 _ rfl; (with_reducible repeat (first | refine blk_drewN ?_ _ | refine blk_drew ?_ | refine blk_alloc ?_ _)); exact BK282.out) Try.underlying29 rfl (by kernel_rfl)) rfl ?_
       exact ⟨_, by first | rfl | (simp [errW_none, errW_some] <;> rfl) | (simp [*, errW_none, errW_some] <;> rfl), by (with_reducible repeat (first | apply Kd.V_alloc | apply Kd.V_drewN | apply Kd.V_drew)); exact Kd.V_mono (Kd.V_far (p := ⟨gb282, 1, none⟩) (Kd.V_far (p := ⟨gb282, 0, none⟩) (Kd.V_mono HO_282001.out (fun k_ hk => (⟨hk, hk.2.2⟩ : _ ∧ k_ ≠ gb282))) (fun _ hk => hk.2) (.int .i64 t283)) (fun _ hk => hk.2) (.slice Ao12 t284.length co12)) (fun _ hk => hk.1.1), by repeat (first | (with_reducible first | exact HB.out | apply below_alloc | apply pw_below_drewN | apply below_drew1 | refine below_set ?_ GE281.out | refine below_set ?_ GE282.out) | exact HB.out)⟩
      ·rw [if_neg c31] at H
       have c31b0 : decide (a2 < t287) = false := decide_eq_false c31
       clear c31
       have HC37 := Aside0.mk H
       clear H
       have hnb38 := NB281_282.out
       have hnc38 := NB282_281.out
       have hcz39_0 : wc.cell? ⟨gb281, 0, none⟩ = some (.int .i64 t283) := (blk_cell BK281.out 0).trans rfl
       have hcz39_1 : wc.cell? ⟨gb281, 1, none⟩ = some (.slice Ao12 t284.length co12) := (blk_cell BK281.out 1).trans rfl
       have hfz39_0 := blk_frozen BK281.out 0
       have hfz39_1 := blk_frozen BK281.out 1
       go_upto_region 11 with (first | ((with_reducible refine gate_callee (f := 13) rfl ?_); refine goesL_ (some 35) rfl rfl Try.func13 (by kernel_rfl) rfl #[.agg #[.int .i64 t283, .slice Ao12 t284.length co12], .int .i64 a1] rfl (by (try simp only [List.map_toArray, List.map_cons, List.map_nil]); first | done | rfl | (simp only [List.length_drop, List.length_take]; rfl)) ?_; (with_reducible refine (haywainref11_Inc.calls kj4 t283 _ _ t284 a1 t287 _ ?side1 ?side2 A24.out).mono ?_); (case side1 => repeat (first | exact (Kd.V_reads' HO_282001.out).2.2 | (with_reducible refine Kd.C_alloc ?_ _) | (with_reducible refine Kd.C_drewN ?_ _) | (with_reducible refine Kd.C_drew ?_))); (case side2 => exact (Kd.V_reads' HO_282001.out).2.1); rintro e w40 ⟨rfl, hb⟩; refine ⟨_, rfl, ?_⟩; have n0_ := Aside0.mk (Kd.V_below (by (with_reducible repeat (first | apply Kd.V_alloc | apply Kd.V_drewN | apply Kd.V_drew)); exact HO_282001.out) hb); have n1_ := Aside0.mk (blk_below (g := gb281) (o := .cells #[.int .i64 t283, .slice Ao12 t284.length co12] 29 (0, 0)) (by (with_reducible repeat (first | refine blk_drewN ?_ _ | refine blk_drew ?_ | refine blk_alloc ?_ _)); exact BK281.out) hb); have n2_ := Aside0.mk (blk_below (g := gb282) (o := .cells #[.int .i64 0, .slice none 0 0] 29 (0, 0)) (by (with_reducible repeat (first | refine blk_drewN ?_ _ | refine blk_drew ?_ | refine blk_alloc ?_ _)); exact BK282.out) hb); have n3_ := Aside0.mk (below_step (by repeat (first | (with_reducible first | exact HB.out | apply below_alloc | apply pw_below_drewN | apply below_drew1 | refine below_set ?_ GE281.out | refine below_set ?_ GE282.out) | exact HB.out)) hb); clear HO_282001; clear BK281; clear BK282; clear HB; have HO_282001 := n0_; have BK281 := n1_; have BK282 := n2_; have HB := n3_; clear n0_ n1_ n2_ n3_; (try clear hb); (try clear hb2); (try clear hk); (try clear hi)))
       (try simp only [Act.put, List.setIfInBounds_toArray, List.set_cons_zero, List.set_cons_succ])
       go_cut [51] (fun v51 wc => ∃ (kq : Nat) (x51_36 : Bool), v51 = .bool x51_36 ∧ Aside0 (haywainref11_Join.j1 kq a1 a2 x51_36 t283 t284 = some (r1, r2, r3)) ∧ Aside0 (kq ≤ kj4) ∧ Aside0 (Kd.V k60 60 wc w.heap.size (fun k_ => (P0_1_ k_ ∨ w.heap.size ≤ k_) ∧ k_ ≠ gb281 ∧ k_ ≠ gb282) (.slice Ao12 t284.length co12) t284) ∧ Aside0 (wc.heap[gb281]? = some (.cells #[.int .i64 t283, (.slice Ao12 t284.length co12)] 29 (0, 0))) ∧ Aside0 (wc.heap[gb282]? = some (.cells #[.int .i64 0, (.slice none 0 0)] 29 (0, 0))) ∧ Aside0 (Below w.heap.size w wc))
       case first =>
        have H := HC37.out
        clear HC37
        by_cases c41 : t287 = 0
        ·rw [if_pos c41] at H
         have c41b0 : (t287 == 0) = true := beq_iff_eq.mpr c41
         have c41b1 : (t287 != 0) = false := bne_eq_false_iff_eq.mpr c41
         clear c41
         (first | rw [c41b0] | (simp only [i64_w, i32_w]; rw [c41b0]) | skip)
         have H' := Aside0.mk H
         clear H
         have hnb42 := NB281_282.out
         have hnc42 := NB282_281.out
         have hcz43_0 : w40.cell? ⟨gb281, 0, none⟩ = some (.int .i64 t283) := (blk_cell BK281.out 0).trans rfl
         have hcz43_1 : w40.cell? ⟨gb281, 1, none⟩ = some (.slice Ao12 t284.length co12) := (blk_cell BK281.out 1).trans rfl
         have hfz43_0 := blk_frozen BK281.out 0
         have hfz43_1 := blk_frozen BK281.out 1
         go_wp2
         go_meet
         case rel => exact ⟨_, (decide ((t284.length : Int) ≥ 5)), (by first | rfl | (simp; done) | (simp [*]; done)), H', ⟨by have := HJ4.out; first | omega | exact Nat.le_refl _⟩, ⟨by (with_reducible repeat (first | apply Kd.V_alloc | apply Kd.V_drewN | apply Kd.V_drew)); exact HO_282001.out⟩, ⟨by (with_reducible repeat (first | refine blk_drewN ?_ _ | refine blk_drew ?_ | refine blk_alloc ?_ _)); exact BK281.out⟩, ⟨by (with_reducible repeat (first | refine blk_drewN ?_ _ | refine blk_drew ?_ | refine blk_alloc ?_ _)); exact BK282.out⟩, ⟨by repeat (first | (with_reducible first | exact HB.out | apply below_alloc | apply pw_below_drewN | apply below_drew1 | refine below_set ?_ GE281.out | refine below_set ?_ GE282.out) | exact HB.out)⟩⟩
        ·rw [if_neg c41] at H
         have c41b0 : (t287 == 0) = false := beq_eq_false_iff_ne.mpr c41
         have c41b1 : (t287 != 0) = true := bne_iff_ne.mpr c41
         (first | rw [c41b0] | (simp only [i64_w, i32_w]; rw [c41b0]) | skip)
         have H' := Aside0.mk H
         clear H
         go_wp2
         go_meet
         case rel => exact ⟨_, (false), (by first | rfl | (simp; done) | (simp [*]; done)), H', ⟨by have := HJ4.out; first | omega | exact Nat.le_refl _⟩, ⟨by (with_reducible repeat (first | apply Kd.V_alloc | apply Kd.V_drewN | apply Kd.V_drew)); exact HO_282001.out⟩, ⟨by (with_reducible repeat (first | refine blk_drewN ?_ _ | refine blk_drew ?_ | refine blk_alloc ?_ _)); exact BK281.out⟩, ⟨by (with_reducible repeat (first | refine blk_drewN ?_ _ | refine blk_drew ?_ | refine blk_alloc ?_ _)); exact BK282.out⟩, ⟨by repeat (first | (with_reducible first | exact HB.out | apply below_alloc | apply pw_below_drewN | apply below_drew1 | refine below_set ?_ GE281.out | refine below_set ?_ GE282.out) | exact HB.out)⟩⟩
       case rest =>
        clear HC37
        try clear c1
        try clear c2
        try clear p2
        try clear c3
        try clear c4
        try clear c8
        try clear c13
        try clear c13b0
        try clear c14
        try clear c14b0
        try clear c15
        try clear c15b0
        try clear c16
        try clear c17
        try clear c20
        try clear c20b0
        try clear c20b1
        try clear c21
        try clear c22
        try clear c25
        try clear c25b0
        try clear c25b1
        try clear c26
        try clear c27
        try clear c31
        try clear c31b0
        try clear c32
        try clear c38
        try clear c41
        try clear c41b0
        try clear c41b1
        try clear c42
        try clear hcz11_0
        try clear hcz11_1
        try clear hcz18_0
        try clear hcz18_1
        try clear hcz19_0
        try clear hcz19_1
        try clear hcz22_0
        try clear hcz22_1
        try clear hcz23_0
        try clear hcz23_1
        try clear hcz27_0
        try clear hcz27_1
        try clear hcz29_0
        try clear hcz29_1
        try clear hcz30_0
        try clear hcz30_1
        try clear hcz33_0
        try clear hcz33_1
        try clear hcz35_0
        try clear hcz35_1
        try clear hcz36_0
        try clear hcz36_1
        try clear hcz39_0
        try clear hcz39_1
        try clear hcz43_0
        try clear hcz43_1
        try clear hcz9_0
        try clear hcz9_1
        try clear hfz11_0
        try clear hfz11_1
        try clear hfz18_0
        try clear hfz18_1
        try clear hfz19_0
        try clear hfz19_1
        try clear hfz22_0
        try clear hfz22_1
        try clear hfz23_0
        try clear hfz23_1
        try clear hfz27_0
        try clear hfz27_1
        try clear hfz29_0
        try clear hfz29_1
        try clear hfz30_0
        try clear hfz30_1
        try clear hfz33_0
        try clear hfz33_1
        try clear hfz35_0
        try clear hfz35_1
        try clear hfz36_0
        try clear hfz36_1
        try clear hfz39_0
        try clear hfz39_1
        try clear hfz43_0
        try clear hfz43_1
        try clear hfz9_0
        try clear hfz9_1
        try clear p2
        obtain ⟨kq, x51_36, rfl, HA, HJ36, HO_282001, BK281, BK282, HB⟩ := hcut
        cases kq with
        | zero => exact absurd HA.out (by simp [haywainref11_Join.j1])
        | succ kj36 =>
         have H := HA.out
         clear HA
         simp only [haywainref11_Join.j1] at H
         by_cases c44 : x51_36 = true
         ·subst c44
          have H1 : (some (t283, t284, 3)) = some (r1, r2, r3) := by rw [if_pos rfl] at H; exact H
          clear H
          have H := H1
          clear H1
          simp only [Option.some.injEq, Prod.mk.injEq] at H
          obtain ⟨rfl, rfl, rfl⟩ := H
          have hnb45 := NB281_282.out
          have hnc45 := NB282_281.out
          have hcz46_0 : wc.cell? ⟨gb281, 0, none⟩ = some (.int .i64 t283) := (blk_cell BK281.out 0).trans rfl
          have hcz46_1 : wc.cell? ⟨gb281, 1, none⟩ = some (.slice Ao12 t284.length co12) := (blk_cell BK281.out 1).trans rfl
          have hfz46_0 := blk_frozen BK281.out 0
          have hfz46_1 := blk_frozen BK281.out 1
          have hcz47_0 : wc.cell? ⟨gb282, 0, none⟩ = some (.int .i64 0) := (blk_cell BK282.out 0).trans rfl
          have hcz47_1 : wc.cell? ⟨gb282, 1, none⟩ = some (.slice none 0 0) := (blk_cell BK282.out 1).trans rfl
          have hfz47_0 := blk_frozen BK282.out 0
          have hfz47_1 := blk_frozen BK282.out 1
          go_wp2
          refine bodyPost_ret (results_ct rfl _ _ gb282 29 #[.int .i64 t283, .slice Ao12 t284.length co12] (0, 0) _ rfl (by (with_reducible repeat (first | refine blk_drewN ?_ _ | refine blk_drew ?_ | refine blk_alloc ?_ _)); refine blk_put (cs := #[.int .i64 t283, .slice none 0 0]) ?_ 1 _ rfl; (with_reducible repeat (first | refine blk_drewN ?_ _ | refine blk_drew ?_ | refine blk_alloc ?_ _)); refine blk_put (cs := #[.int .i64 0, .slice none 0 0]) ?_ 0 _ rfl; (with_reducible repeat (first | refine blk_drewN ?_ _ | refine blk_drew ?_ | refine blk_alloc ?_ _)); exact BK282.out) Try.underlying29 rfl (by kernel_rfl)) rfl ?_
          exact ⟨_, by first | rfl | (simp [errW_none, errW_some] <;> rfl) | (simp [*, errW_none, errW_some] <;> rfl), by (with_reducible repeat (first | apply Kd.V_alloc | apply Kd.V_drewN | apply Kd.V_drew)); exact Kd.V_mono (Kd.V_far (p := ⟨gb282, 1, none⟩) (Kd.V_far (p := ⟨gb282, 0, none⟩) (Kd.V_mono HO_282001.out (fun k_ hk => (⟨hk, hk.2.2⟩ : _ ∧ k_ ≠ gb282))) (fun _ hk => hk.2) (.int .i64 t283)) (fun _ hk => hk.2) (.slice Ao12 t284.length co12)) (fun _ hk => hk.1.1), by repeat (first | (with_reducible first | exact HB.out | apply below_alloc | apply pw_below_drewN | apply below_drew1 | refine below_set ?_ GE281.out | refine below_set ?_ GE282.out) | exact HB.out)⟩
         ·replace c44 := Bool.eq_false_iff.mpr c44
          subst c44
          have H1 : (haywainref11_Join.l0 kj36 a1 a2 1 t283 t284 (wrap64 (t283 + 1)) ([] : List (S60))) = some (r1, r2, r3) := by rw [if_neg (show ¬ (false = true) by decide)] at H; exact H
          clear H
          have H := H1
          clear H1
          have H' := Aside0.mk H
          clear H
          have hnb48 := NB281_282.out
          have hnc48 := NB282_281.out
          have hcz49_0 : wc.cell? ⟨gb281, 0, none⟩ = some (.int .i64 t283) := (blk_cell BK281.out 0).trans rfl
          have hcz49_1 : wc.cell? ⟨gb281, 1, none⟩ = some (.slice Ao12 t284.length co12) := (blk_cell BK281.out 1).trans rfl
          have hfz49_0 := blk_frozen BK281.out 0
          have hfz49_1 := blk_frozen BK281.out 1
          go_wp2_with (first | ((with_reducible refine gate_dst (N := 9) rfl ?_); (try (refine gate_guard (by rfl) ?_; dsimp only)); refine box_event ?hg (N := 9) ?hd (cs := #[.int .i64 0, .slice none 0 0]) (t := 29) ?hr ?_; (case hd => rfl); (case hg => rfl); (case hr => first | (go_simp; done) | (go_simp; rfl)); intro gb288 hg w50 hbox hb; have n0_ := Aside0.mk (Kd.V_below (Kd.V_elderB (by (with_reducible repeat (first | apply Kd.V_alloc | apply Kd.V_drewN | apply Kd.V_drew)); exact HO_282001.out) gb288 (Nat.le_of_eq hg.symm)) hb); have n1_ := Aside0.mk (blk_below (g := gb281) (o := .cells #[.int .i64 t283, .slice Ao12 t284.length co12] 29 (0, 0)) (by (with_reducible repeat (first | refine blk_drewN ?_ _ | refine blk_drew ?_ | refine blk_alloc ?_ _)); exact BK281.out) hb); have n2_ := Aside0.mk (blk_below (g := gb282) (o := .cells #[.int .i64 0, .slice none 0 0] 29 (0, 0)) (by (with_reducible repeat (first | refine blk_drewN ?_ _ | refine blk_drew ?_ | refine blk_alloc ?_ _)); exact BK282.out) hb); have n3_ := Aside0.mk (below_step (by repeat (first | (with_reducible first | exact HB.out | apply below_alloc | apply pw_below_drewN | apply below_drew1 | refine below_set ?_ GE281.out | refine below_set ?_ GE282.out) | exact HB.out)) hb); have n4_ := Aside0.mk (hbox); have n5_ := Aside0.mk ((by rw [hg]; exact (below_size (by repeat (first | (with_reducible first | exact HB.out | apply below_alloc | apply pw_below_drewN | apply below_drew1 | refine below_set ?_ GE281.out | refine below_set ?_ GE282.out) | exact HB.out))) : w.heap.size ≤ gb288)); have n6_ := Aside0.mk ((by rw [hg]; exact (below_size (by repeat (first | (with_reducible first | exact HB.out | apply below_alloc | apply pw_below_drewN | apply below_drew1 | refine below_set ?_ GE281.out | refine below_set ?_ GE282.out) | exact HB.out))) : w.heap.size ≤ gb288)); have n7_ := Aside0.mk ((by rw [hg]; exact Nat.ne_of_lt (blk_lt (g := gb281) (o := .cells #[.int .i64 t283, .slice Ao12 t284.length co12] 29 (0, 0)) (by (with_reducible repeat (first | refine blk_drewN ?_ _ | refine blk_drew ?_ | refine blk_alloc ?_ _)); exact BK281.out)) : gb281 ≠ gb288)); have n8_ := Aside0.mk ((by rw [hg]; exact Nat.ne_of_gt (blk_lt (g := gb281) (o := .cells #[.int .i64 t283, .slice Ao12 t284.length co12] 29 (0, 0)) (by (with_reducible repeat (first | refine blk_drewN ?_ _ | refine blk_drew ?_ | refine blk_alloc ?_ _)); exact BK281.out)) : gb288 ≠ gb281)); have n9_ := Aside0.mk ((by rw [hg]; exact Nat.ne_of_lt (blk_lt (g := gb282) (o := .cells #[.int .i64 0, .slice none 0 0] 29 (0, 0)) (by (with_reducible repeat (first | refine blk_drewN ?_ _ | refine blk_drew ?_ | refine blk_alloc ?_ _)); exact BK282.out)) : gb282 ≠ gb288)); have n10_ := Aside0.mk ((by rw [hg]; exact Nat.ne_of_gt (blk_lt (g := gb282) (o := .cells #[.int .i64 0, .slice none 0 0] 29 (0, 0)) (by (with_reducible repeat (first | refine blk_drewN ?_ _ | refine blk_drew ?_ | refine blk_alloc ?_ _)); exact BK282.out)) : gb288 ≠ gb282)); clear HO_282001; clear BK281; clear BK282; clear HB; have HO_282001 := n0_; have BK281 := n1_; have BK282 := n2_; have HB := n3_; have BK288 := n4_; have GW288 := n5_; have GE288 := n6_; have NB281_288 := n7_; have NB288_281 := n8_; have NB282_288 := n9_; have NB288_282 := n10_; clear n0_ n1_ n2_ n3_ n4_ n5_ n6_ n7_ n8_ n9_ n10_; clear hb hbox hg; have hnb51 := NB288_281.out; have hnc51 := NB281_288.out; have hnb52 := NB288_282.out; have hnc52 := NB282_288.out; have hcz53_0 : w50.cell? ⟨gb288, 0, none⟩ = some (.int .i64 0) := (blk_cell BK288.out 0).trans rfl; have hcz53_1 : w50.cell? ⟨gb288, 1, none⟩ = some (.slice none 0 0) := (blk_cell BK288.out 1).trans rfl; have hfz53_0 := blk_frozen BK288.out 0; have hfz53_1 := blk_frozen BK288.out 1))
          go_loopg [10] kj36 (fun kq v10 w' => ∃ (x10_3 : Int) (x289001_3 : List (S60)) (u289001 : Value), v10 = .int .i64 x10_3 ∧ Aside0 (haywainref11_Join.l0 kq a1 a2 x10_3 t283 t284 (wrap64 (t283 + 1)) x289001_3 = some (r1, r2, r3)) ∧ Aside0 (kq ≤ kj36) ∧ Aside0 (Kd.V k60 60 w' w.heap.size (fun k_ => (P0_1_ k_ ∨ w.heap.size ≤ k_) ∧ some k_ ≠ (u289001 : Value).ownBlock ∧ k_ ≠ gb281 ∧ k_ ≠ gb282 ∧ k_ ≠ gb288) (.slice Ao12 t284.length co12) t284) ∧ Aside0 (Kd.R k60 60 w' w.heap.size (fun k_ => (w.heap.size ≤ k_)) u289001 x289001_3) ∧ Aside0 (w'.heap[gb281]? = some (.cells #[.int .i64 t283, (.slice Ao12 t284.length co12)] 29 (0, 0))) ∧ Aside0 (w'.heap[gb282]? = some (.cells #[.int .i64 0, (.slice none 0 0)] 29 (0, 0))) ∧ Aside0 (w'.heap[gb288]? = some (.cells #[.int .i64 (wrap64 (t283 + 1)), u289001] 29 (0, 0))) ∧ Aside0 (Below w.heap.size w w'))
          case atStart => exact ⟨(1), (([] : List (S60))), (.slice none 0 0), (by first | rfl | (simp; done) | (simp [*]; done)), H', ⟨Nat.le_refl _⟩, ⟨by (with_reducible repeat (first | apply Kd.V_alloc | apply Kd.V_drewN | apply Kd.V_drew)); exact Kd.V_mono (Kd.V_far (p := ⟨gb288, 1, none⟩) (Kd.V_far (p := ⟨gb288, 0, none⟩) (Kd.V_mono HO_282001.out (fun k_ hk => (⟨hk, hk.2⟩ : _ ∧ k_ ≠ gb288))) (fun _ hk => hk.2) (.int .i64 (wrap64 (t283 + 1)))) (fun _ hk => hk.2) (.slice none 0 0)) (fun _ hk => ⟨hk.1.1.1, ⟨(by simp [Value.ownBlock]), ⟨hk.1.1.2.1, ⟨hk.1.1.2.2, hk.1.2⟩⟩⟩⟩)⟩, ⟨by first | exact Kd.R_nil _ _ _ _ _ | exact Kd.N_nil _ _ _ _ _ | exact Kd.V_nil _ _ _ _ _ | exact Kd.Q_nil _ _ _ _ _ | exact Kd.S_nil _ _ _ _ _⟩, ⟨by (with_reducible repeat (first | refine blk_drewN ?_ _ | refine blk_drew ?_ | refine blk_alloc ?_ _)); refine blk_far ?_ NB281_288.out _; (with_reducible repeat (first | refine blk_drewN ?_ _ | refine blk_drew ?_ | refine blk_alloc ?_ _)); refine blk_far ?_ NB281_288.out _; (with_reducible repeat (first | refine blk_drewN ?_ _ | refine blk_drew ?_ | refine blk_alloc ?_ _)); exact BK281.out⟩, ⟨by (with_reducible repeat (first | refine blk_drewN ?_ _ | refine blk_drew ?_ | refine blk_alloc ?_ _)); refine blk_far ?_ NB282_288.out _; (with_reducible repeat (first | refine blk_drewN ?_ _ | refine blk_drew ?_ | refine blk_alloc ?_ _)); refine blk_far ?_ NB282_288.out _; (with_reducible repeat (first | refine blk_drewN ?_ _ | refine blk_drew ?_ | refine blk_alloc ?_ _)); exact BK282.out⟩, ⟨by (with_reducible repeat (first | refine blk_drewN ?_ _ | refine blk_drew ?_ | refine blk_alloc ?_ _)); refine blk_put (cs := #[.int .i64 (wrap64 (t283 + 1)), .slice none 0 0]) ?_ 1 _ rfl; (with_reducible repeat (first | refine blk_drewN ?_ _ | refine blk_drew ?_ | refine blk_alloc ?_ _)); refine blk_put (cs := #[.int .i64 0, .slice none 0 0]) ?_ 0 _ rfl; (with_reducible repeat (first | refine blk_drewN ?_ _ | refine blk_drew ?_ | refine blk_alloc ?_ _)); exact BK288.out⟩, ⟨by repeat (first | (with_reducible first | exact HB.out | apply below_alloc | apply pw_below_drewN | apply below_drew1 | refine below_set ?_ GE281.out | refine below_set ?_ GE282.out | refine below_set ?_ GE288.out) | exact HB.out)⟩⟩
          case round =>
           clear H'
           try clear c1
           try clear c2
           try clear p2
           try clear c3
           try clear c4
           try clear c5
           try clear p6
           try clear c8
           try clear c13
           try clear c13b0
           try clear c14
           try clear c14b0
           try clear c15
           try clear c15b0
           try clear c16
           try clear c17
           try clear c20
           try clear c20b0
           try clear c20b1
           try clear c21
           try clear c22
           try clear c25
           try clear c25b0
           try clear c25b1
           try clear c26
           try clear c27
           try clear c31
           try clear c31b0
           try clear c32
           try clear c38
           try clear c41
           try clear c41b0
           try clear c41b1
           try clear c42
           try clear c44
           try clear c45
           try clear c48
           try clear c51
           try clear c52
           try clear hcz11_0
           try clear hcz11_1
           try clear hcz18_0
           try clear hcz18_1
           try clear hcz19_0
           try clear hcz19_1
           try clear hcz22_0
           try clear hcz22_1
           try clear hcz23_0
           try clear hcz23_1
           try clear hcz27_0
           try clear hcz27_1
           try clear hcz29_0
           try clear hcz29_1
           try clear hcz30_0
           try clear hcz30_1
           try clear hcz33_0
           try clear hcz33_1
           try clear hcz35_0
           try clear hcz35_1
           try clear hcz36_0
           try clear hcz36_1
           try clear hcz39_0
           try clear hcz39_1
           try clear hcz43_0
           try clear hcz43_1
           try clear hcz46_0
           try clear hcz46_1
           try clear hcz47_0
           try clear hcz47_1
           try clear hcz49_0
           try clear hcz49_1
           try clear hcz53_0
           try clear hcz53_1
           try clear hcz9_0
           try clear hcz9_1
           try clear hfz11_0
           try clear hfz11_1
           try clear hfz18_0
           try clear hfz18_1
           try clear hfz19_0
           try clear hfz19_1
           try clear hfz22_0
           try clear hfz22_1
           try clear hfz23_0
           try clear hfz23_1
           try clear hfz27_0
           try clear hfz27_1
           try clear hfz29_0
           try clear hfz29_1
           try clear hfz30_0
           try clear hfz30_1
           try clear hfz33_0
           try clear hfz33_1
           try clear hfz35_0
           try clear hfz35_1
           try clear hfz36_0
           try clear hfz36_1
           try clear hfz39_0
           try clear hfz39_1
           try clear hfz43_0
           try clear hfz43_1
           try clear hfz46_0
           try clear hfz46_1
           try clear hfz47_0
           try clear hfz47_1
           try clear hfz49_0
           try clear hfz49_1
           try clear hfz53_0
           try clear hfz53_1
           try clear hfz9_0
           try clear hfz9_1
           try clear p2
           obtain ⟨x10_3, x289001_3, u289001, rfl, HA, HK3, HO_282001, HO_289001, BK281, BK282, BK288, HB⟩ := hrel
           cases gk with
           | zero => exact absurd HA.out (by simp [haywainref11_Join.l0])
           | succ k3 =>
            have H := HA.out
            clear HA
            simp only [haywainref11_Join.l0] at H
            by_cases c54 : x10_3 ≤ 99
            ·rw [if_pos c54] at H
             have c54b0 : decide (x10_3 ≤ 99) = true := decide_eq_true c54
             clear c54
             replace H := Option.bind_eq_some_iff.mp H
             obtain ⟨t289, A550, H⟩ := H
             replace H : (if x10_3 = a1 then (if a2 > 0 then (if x289001_3.length < 8796093022208 then (haywainref11_Join.l0 k3 a1 a2 (wrap64 (x10_3 + 1)) t283 t284 (wrap64 (t283 + 1)) (x289001_3 ++ [(⟨x10_3, a2⟩ : S60)])) else (none)) else (haywainref11_Join.l0 k3 a1 a2 (wrap64 (x10_3 + 1)) t283 t284 (wrap64 (t283 + 1)) x289001_3)) else (if t289 > 0 then (if x289001_3.length < 8796093022208 then (haywainref11_Join.l0 k3 a1 a2 (wrap64 (x10_3 + 1)) t283 t284 (wrap64 (t283 + 1)) (x289001_3 ++ [(⟨x10_3, t289⟩ : S60)])) else (none)) else (haywainref11_Join.l0 k3 a1 a2 (wrap64 (x10_3 + 1)) t283 t284 (wrap64 (t283 + 1)) x289001_3))) = some (r1, r2, r3) := H
             have A55 := Aside0.mk A550
             clear A550
             by_cases c56 : x10_3 = a1
             ·rw [if_pos c56] at H
              have c56b0 : (x10_3 == a1) = true := beq_iff_eq.mpr c56
              have c56b1 : (x10_3 != a1) = false := bne_eq_false_iff_eq.mpr c56
              clear c56
              by_cases c57 : a2 > 0
              ·rw [if_pos c57] at H
               have c57b0 : decide (0 < a2) = true := decide_eq_true c57
               clear c57
               by_cases c58 : x289001_3.length < 8796093022208
               ·rw [if_pos c58] at H
                have LMc58 := Aside0.mk c58
                clear c58
                obtain ⟨y290, hy290⟩ : ∃ y_ : List (S60), y_ = (x289001_3 ++ [(⟨x10_3, a2⟩ : S60)]) := ⟨_, rfl⟩
                replace H : (haywainref11_Join.l0 k3 a1 a2 (wrap64 (x10_3 + 1)) t283 t284 (wrap64 (t283 + 1)) y290) = some (r1, r2, r3) := by first | (rw [hy290]; with_reducible exact H) | (have H2_ := (Option.bind_some _ _).symm.trans H; rw [hy290]; with_reducible exact H2_) | (have H2_ := (Option.bind_some _ _).symm.trans H; with_reducible exact H2_) | with_reducible exact H | (rw [hy290]; exact H) | exact H
                have Ny290 := Aside0.mk hy290
                clear hy290
                have H' := Aside0.mk H
                clear H
                have hnb59 := NB281_282.out
                have hnc59 := NB282_281.out
                have hnb60 := NB281_288.out
                have hnc60 := NB288_281.out
                have hcz61_0 : wr.cell? ⟨gb281, 0, none⟩ = some (.int .i64 t283) := (blk_cell BK281.out 0).trans rfl
                have hcz61_1 : wr.cell? ⟨gb281, 1, none⟩ = some (.slice Ao12 t284.length co12) := (blk_cell BK281.out 1).trans rfl
                have hfz61_0 := blk_frozen BK281.out 0
                have hfz61_1 := blk_frozen BK281.out 1
                go_wp2_with (first | ((with_reducible refine gate_callee (f := 13) rfl ?_); refine goesL_ (some 63) rfl rfl Try.func13 (by kernel_rfl) rfl #[.agg #[.int .i64 t283, .slice Ao12 t284.length co12], .int .i64 x10_3] rfl (by (try simp only [List.map_toArray, List.map_cons, List.map_nil]); first | done | rfl | (simp only [List.length_drop, List.length_take]; rfl)) ?_; (with_reducible refine (haywainref11_Inc.calls k3 t283 _ _ t284 x10_3 t289 _ ?side1 ?side2 A55.out).mono ?_); (case side1 => repeat (first | exact (Kd.V_reads' HO_282001.out).2.2 | (with_reducible refine Kd.C_alloc ?_ _) | (with_reducible refine Kd.C_drewN ?_ _) | (with_reducible refine Kd.C_drew ?_))); (case side2 => exact (Kd.V_reads' HO_282001.out).2.1); rintro e w62 ⟨rfl, hb⟩; refine ⟨_, rfl, ?_⟩; have n0_ := Aside0.mk (Kd.V_below (by (with_reducible repeat (first | apply Kd.V_alloc | apply Kd.V_drewN | apply Kd.V_drew)); exact HO_282001.out) hb); have n1_ := Aside0.mk (Kd.R_below (by (with_reducible repeat (first | apply Kd.R_alloc | apply Kd.R_drewN | apply Kd.R_drew)); exact HO_289001.out) hb); have n2_ := Aside0.mk (blk_below (g := gb281) (o := .cells #[.int .i64 t283, .slice Ao12 t284.length co12] 29 (0, 0)) (by (with_reducible repeat (first | refine blk_drewN ?_ _ | refine blk_drew ?_ | refine blk_alloc ?_ _)); exact BK281.out) hb); have n3_ := Aside0.mk (blk_below (g := gb282) (o := .cells #[.int .i64 0, .slice none 0 0] 29 (0, 0)) (by (with_reducible repeat (first | refine blk_drewN ?_ _ | refine blk_drew ?_ | refine blk_alloc ?_ _)); exact BK282.out) hb); have n4_ := Aside0.mk (blk_below (g := gb288) (o := .cells #[.int .i64 (wrap64 (t283 + 1)), u289001] 29 (0, 0)) (by (with_reducible repeat (first | refine blk_drewN ?_ _ | refine blk_drew ?_ | refine blk_alloc ?_ _)); exact BK288.out) hb); have n5_ := Aside0.mk (below_step (by repeat (first | (with_reducible first | exact HB.out | apply below_alloc | apply pw_below_drewN | apply below_drew1 | refine below_set ?_ GE281.out | refine below_set ?_ GE282.out | refine below_set ?_ GE288.out) | exact HB.out)) hb); clear HO_282001; clear HO_289001; clear BK281; clear BK282; clear BK288; clear HB; have HO_282001 := n0_; have HO_289001 := n1_; have BK281 := n2_; have BK282 := n3_; have BK288 := n4_; have HB := n5_; clear n0_ n1_ n2_ n3_ n4_ n5_; (try clear hb); (try clear hb2); (try clear hk); (try clear hi); have hnb63 := NB288_282.out; have hnc63 := NB282_288.out; have hcz64_0 : w62.cell? ⟨gb288, 0, none⟩ = some (.int .i64 (wrap64 (t283 + 1))) := (blk_cell BK288.out 0).trans rfl; have hcz64_1 : w62.cell? ⟨gb288, 1, none⟩ = some (u289001) := (blk_cell BK288.out 1).trans rfl; have hfz64_0 := blk_frozen BK288.out 0; have hfz64_1 := blk_frozen BK288.out 1) | ((with_reducible refine gate_builtin (b := .append) (xs := #[.tmp 71, .tmp 75]) rfl ?_); (try (refine gate_guard (by rfl) ?_; dsimp only)); at_builtin; refine Kd.R_append k60 (w0 := w) w.heap.size rfl (.tmp 71) (.tmp 75) 27 60 (.agg #[(.int .i64 0), (.int .i64 0)]) 16 rfl Try.underlying27 info60 rfl (by decide) (by omega) u289001 x289001_3 (⟨x10_3, a2⟩ : S60) [.int .i64 x10_3, .int .i64 a2] (fun k_ => (w.heap.size ≤ k_)) (fun _ => False) rfl rfl ?aP (fun _ hk => hk.elim) ?aF ?aO ?aB ?aS ?aL ?_; (case aP => exact k60_mkM _ _ _ (⟨x10_3, a2⟩ : S60)); (case aB => exact (by repeat (first | (with_reducible first | exact HB.out | apply below_alloc | apply pw_below_drewN | apply below_drew1 | refine below_set ?_ GE281.out | refine below_set ?_ GE282.out | refine below_set ?_ GE288.out) | exact HB.out))); (case aF => exact (fun k_ hk => (Nat.le_trans (below_size (by repeat (first | (with_reducible first | exact HB.out | apply below_alloc | apply pw_below_drewN | apply below_drew1 | refine below_set ?_ GE281.out | refine below_set ?_ GE282.out | refine below_set ?_ GE288.out) | exact HB.out))) hk))); (case aO => exact (by (with_reducible repeat (first | apply Kd.R_alloc | apply Kd.R_drewN | apply Kd.R_drew)); exact HO_289001.out)); (case aS => exact (below_size (by repeat (first | (with_reducible first | exact HB.out | apply below_alloc | apply pw_below_drewN | apply below_drew1 | refine below_set ?_ GE281.out | refine below_set ?_ GE282.out | refine below_set ?_ GE288.out) | exact HB.out)))); (case aL => have := LMc58.out; omega); intro v291 w65 ho hb hg hat; rw [← Ny290.out] at ho; have n0_ := Aside0.mk (Kd.V_afterv (ok := (fun k_ => (P0_1_ k_ ∨ w.heap.size ≤ k_) ∧ k_ ≠ gb281 ∧ k_ ≠ gb282 ∧ k_ ≠ gb288)) (by (with_reducible repeat (first | apply Kd.V_alloc | apply Kd.V_drewN | apply Kd.V_drew)); exact Kd.V_mono HO_282001.out (fun _ hk => ⟨⟨hk.1, ⟨hk.2.2.1, ⟨hk.2.2.2.1, hk.2.2.2.2⟩⟩⟩, hk.2.1⟩)) hg hat); have n1_ := Aside0.mk (blk_grown (g := gb281) (o := .cells #[.int .i64 t283, .slice Ao12 t284.length co12] 29 (0, 0)) (by (with_reducible repeat (first | refine blk_drewN ?_ _ | refine blk_drew ?_ | refine blk_alloc ?_ _)); exact BK281.out) hg (Kd.R_ne HO_289001.out BK281.out (by decide))); have n2_ := Aside0.mk (blk_grown (g := gb282) (o := .cells #[.int .i64 0, .slice none 0 0] 29 (0, 0)) (by (with_reducible repeat (first | refine blk_drewN ?_ _ | refine blk_drew ?_ | refine blk_alloc ?_ _)); exact BK282.out) hg (Kd.R_ne HO_289001.out BK282.out (by decide))); have n3_ := Aside0.mk (blk_grown (g := gb288) (o := .cells #[.int .i64 (wrap64 (t283 + 1)), u289001] 29 (0, 0)) (by (with_reducible repeat (first | refine blk_drewN ?_ _ | refine blk_drew ?_ | refine blk_alloc ?_ _)); exact BK288.out) hg (Kd.R_ne HO_289001.out BK288.out (by decide))); have n4_ := Aside0.mk (hb); have n5_ := Aside0.mk (ho); clear HO_282001; clear BK281; clear BK282; clear BK288; clear HB; clear HO_289001; have HO_282001 := n0_; have BK281 := n1_; have BK282 := n2_; have BK288 := n3_; have HB := n4_; have HO292 := n5_; clear n0_ n1_ n2_ n3_ n4_ n5_; clear ho hb hg hat; obtain ⟨Ao66, co66, eo66⟩ := Kd.R_slice HO292.out; subst eo66; have hcz67_0 : w65.cell? ⟨gb288, 0, none⟩ = some (.int .i64 (wrap64 (t283 + 1))) := (blk_cell BK288.out 0).trans rfl; have hcz67_1 : w65.cell? ⟨gb288, 1, none⟩ = some (u289001) := (blk_cell BK288.out 1).trans rfl; have hfz67_0 := blk_frozen BK288.out 0; have hfz67_1 := blk_frozen BK288.out 1))
                go_roundg k3
                case measure => have := HJ4.out; have := HJ36.out; have := HK3.out; omega
                case rel => exact ⟨(wrap64 (x10_3 + 1)), (y290), (.slice Ao66 y290.length co66), (by first | rfl | (simp; done) | (simp [*]; done)), H', ⟨by have := HJ4.out; have := HJ36.out; have := HK3.out; omega⟩, ⟨by (with_reducible repeat (first | apply Kd.V_alloc | apply Kd.V_drewN | apply Kd.V_drew)); exact Kd.V_mono (Kd.V_far (p := ⟨gb288, 1, none⟩) (Kd.V_mono HO_282001.out (fun k_ hk => (⟨hk, hk.1.2.2.2⟩ : _ ∧ k_ ≠ gb288))) (fun _ hk => hk.2) (.slice Ao66 y290.length co66)) (fun _ hk => ⟨hk.1.1.1, ⟨hk.1.2, ⟨hk.1.1.2.1, ⟨hk.1.1.2.2.1, hk.1.1.2.2.2⟩⟩⟩⟩)⟩, ⟨by (with_reducible repeat (first | apply Kd.R_alloc | apply Kd.R_drewN | apply Kd.R_drew)); exact Kd.R_mono (Kd.R_far (p := ⟨gb288, 1, none⟩) (Kd.R_types HO292.out BK288.out (by decide)) (fun _ hk => hk.2) (.slice Ao66 y290.length co66)) (fun _ hk => hk.1)⟩, ⟨by (with_reducible repeat (first | refine blk_drewN ?_ _ | refine blk_drew ?_ | refine blk_alloc ?_ _)); refine blk_far ?_ NB281_288.out _; (with_reducible repeat (first | refine blk_drewN ?_ _ | refine blk_drew ?_ | refine blk_alloc ?_ _)); exact BK281.out⟩, ⟨by (with_reducible repeat (first | refine blk_drewN ?_ _ | refine blk_drew ?_ | refine blk_alloc ?_ _)); refine blk_far ?_ NB282_288.out _; (with_reducible repeat (first | refine blk_drewN ?_ _ | refine blk_drew ?_ | refine blk_alloc ?_ _)); exact BK282.out⟩, ⟨by (with_reducible repeat (first | refine blk_drewN ?_ _ | refine blk_drew ?_ | refine blk_alloc ?_ _)); refine blk_put (cs := #[.int .i64 (wrap64 (t283 + 1)), u289001]) ?_ 1 _ rfl; (with_reducible repeat (first | refine blk_drewN ?_ _ | refine blk_drew ?_ | refine blk_alloc ?_ _)); exact BK288.out⟩, ⟨by repeat (first | (with_reducible first | exact HB.out | apply below_alloc | apply pw_below_drewN | apply below_drew1 | refine below_set ?_ GE281.out | refine below_set ?_ GE282.out | refine below_set ?_ GE288.out) | exact HB.out)⟩⟩
               ·rw [if_neg c58] at H
                exact absurd H (by simp)
              ·rw [if_neg c57] at H
               have c57b0 : decide (0 < a2) = false := decide_eq_false c57
               clear c57
               have H' := Aside0.mk H
               clear H
               have hnb68 := NB281_282.out
               have hnc68 := NB282_281.out
               have hnb69 := NB281_288.out
               have hnc69 := NB288_281.out
               have hcz70_0 : wr.cell? ⟨gb281, 0, none⟩ = some (.int .i64 t283) := (blk_cell BK281.out 0).trans rfl
               have hcz70_1 : wr.cell? ⟨gb281, 1, none⟩ = some (.slice Ao12 t284.length co12) := (blk_cell BK281.out 1).trans rfl
               have hfz70_0 := blk_frozen BK281.out 0
               have hfz70_1 := blk_frozen BK281.out 1
               go_wp2_with (first | ((with_reducible refine gate_callee (f := 13) rfl ?_); refine goesL_ (some 63) rfl rfl Try.func13 (by kernel_rfl) rfl #[.agg #[.int .i64 t283, .slice Ao12 t284.length co12], .int .i64 x10_3] rfl (by (try simp only [List.map_toArray, List.map_cons, List.map_nil]); first | done | rfl | (simp only [List.length_drop, List.length_take]; rfl)) ?_; (with_reducible refine (haywainref11_Inc.calls k3 t283 _ _ t284 x10_3 t289 _ ?side1 ?side2 A55.out).mono ?_); (case side1 => repeat (first | exact (Kd.V_reads' HO_282001.out).2.2 | (with_reducible refine Kd.C_alloc ?_ _) | (with_reducible refine Kd.C_drewN ?_ _) | (with_reducible refine Kd.C_drew ?_))); (case side2 => exact (Kd.V_reads' HO_282001.out).2.1); rintro e w71 ⟨rfl, hb⟩; refine ⟨_, rfl, ?_⟩; have n0_ := Aside0.mk (Kd.V_below (by (with_reducible repeat (first | apply Kd.V_alloc | apply Kd.V_drewN | apply Kd.V_drew)); exact HO_282001.out) hb); have n1_ := Aside0.mk (Kd.R_below (by (with_reducible repeat (first | apply Kd.R_alloc | apply Kd.R_drewN | apply Kd.R_drew)); exact HO_289001.out) hb); have n2_ := Aside0.mk (blk_below (g := gb281) (o := .cells #[.int .i64 t283, .slice Ao12 t284.length co12] 29 (0, 0)) (by (with_reducible repeat (first | refine blk_drewN ?_ _ | refine blk_drew ?_ | refine blk_alloc ?_ _)); exact BK281.out) hb); have n3_ := Aside0.mk (blk_below (g := gb282) (o := .cells #[.int .i64 0, .slice none 0 0] 29 (0, 0)) (by (with_reducible repeat (first | refine blk_drewN ?_ _ | refine blk_drew ?_ | refine blk_alloc ?_ _)); exact BK282.out) hb); have n4_ := Aside0.mk (blk_below (g := gb288) (o := .cells #[.int .i64 (wrap64 (t283 + 1)), u289001] 29 (0, 0)) (by (with_reducible repeat (first | refine blk_drewN ?_ _ | refine blk_drew ?_ | refine blk_alloc ?_ _)); exact BK288.out) hb); have n5_ := Aside0.mk (below_step (by repeat (first | (with_reducible first | exact HB.out | apply below_alloc | apply pw_below_drewN | apply below_drew1 | refine below_set ?_ GE281.out | refine below_set ?_ GE282.out | refine below_set ?_ GE288.out) | exact HB.out)) hb); clear HO_282001; clear HO_289001; clear BK281; clear BK282; clear BK288; clear HB; have HO_282001 := n0_; have HO_289001 := n1_; have BK281 := n2_; have BK282 := n3_; have BK288 := n4_; have HB := n5_; clear n0_ n1_ n2_ n3_ n4_ n5_; (try clear hb); (try clear hb2); (try clear hk); (try clear hi)))
               go_roundg k3
               case measure => have := HJ4.out; have := HJ36.out; have := HK3.out; omega
               case rel => exact ⟨(wrap64 (x10_3 + 1)), (x289001_3), (u289001), (by first | rfl | (simp; done) | (simp [*]; done)), H', ⟨by have := HJ4.out; have := HJ36.out; have := HK3.out; omega⟩, ⟨by (with_reducible repeat (first | apply Kd.V_alloc | apply Kd.V_drewN | apply Kd.V_drew)); exact HO_282001.out⟩, ⟨by (with_reducible repeat (first | apply Kd.R_alloc | apply Kd.R_drewN | apply Kd.R_drew)); exact HO_289001.out⟩, ⟨by (with_reducible repeat (first | refine blk_drewN ?_ _ | refine blk_drew ?_ | refine blk_alloc ?_ _)); exact BK281.out⟩, ⟨by (with_reducible repeat (first | refine blk_drewN ?_ _ | refine blk_drew ?_ | refine blk_alloc ?_ _)); exact BK282.out⟩, ⟨by (with_reducible repeat (first | refine blk_drewN ?_ _ | refine blk_drew ?_ | refine blk_alloc ?_ _)); exact BK288.out⟩, ⟨by repeat (first | (with_reducible first | exact HB.out | apply below_alloc | apply pw_below_drewN | apply below_drew1 | refine below_set ?_ GE281.out | refine below_set ?_ GE282.out | refine below_set ?_ GE288.out) | exact HB.out)⟩⟩
             ·rw [if_neg c56] at H
              have c56b0 : (x10_3 == a1) = false := beq_eq_false_iff_ne.mpr c56
              have c56b1 : (x10_3 != a1) = true := bne_iff_ne.mpr c56
              by_cases c72 : t289 > 0
              ·rw [if_pos c72] at H
               have c72b0 : decide (0 < t289) = true := decide_eq_true c72
               clear c72
               by_cases c73 : x289001_3.length < 8796093022208
               ·rw [if_pos c73] at H
                have LMc73 := Aside0.mk c73
                clear c73
                obtain ⟨y293, hy293⟩ : ∃ y_ : List (S60), y_ = (x289001_3 ++ [(⟨x10_3, t289⟩ : S60)]) := ⟨_, rfl⟩
                replace H : (haywainref11_Join.l0 k3 a1 a2 (wrap64 (x10_3 + 1)) t283 t284 (wrap64 (t283 + 1)) y293) = some (r1, r2, r3) := by first | (rw [hy293]; with_reducible exact H) | (have H2_ := (Option.bind_some _ _).symm.trans H; rw [hy293]; with_reducible exact H2_) | (have H2_ := (Option.bind_some _ _).symm.trans H; with_reducible exact H2_) | with_reducible exact H | (rw [hy293]; exact H) | exact H
                have Ny293 := Aside0.mk hy293
                clear hy293
                have H' := Aside0.mk H
                clear H
                have hnb74 := NB281_282.out
                have hnc74 := NB282_281.out
                have hnb75 := NB281_288.out
                have hnc75 := NB288_281.out
                have hcz76_0 : wr.cell? ⟨gb281, 0, none⟩ = some (.int .i64 t283) := (blk_cell BK281.out 0).trans rfl
                have hcz76_1 : wr.cell? ⟨gb281, 1, none⟩ = some (.slice Ao12 t284.length co12) := (blk_cell BK281.out 1).trans rfl
                have hfz76_0 := blk_frozen BK281.out 0
                have hfz76_1 := blk_frozen BK281.out 1
                go_wp2_with (first | ((with_reducible refine gate_callee (f := 13) rfl ?_); refine goesL_ (some 63) rfl rfl Try.func13 (by kernel_rfl) rfl #[.agg #[.int .i64 t283, .slice Ao12 t284.length co12], .int .i64 x10_3] rfl (by (try simp only [List.map_toArray, List.map_cons, List.map_nil]); first | done | rfl | (simp only [List.length_drop, List.length_take]; rfl)) ?_; (with_reducible refine (haywainref11_Inc.calls k3 t283 _ _ t284 x10_3 t289 _ ?side1 ?side2 A55.out).mono ?_); (case side1 => repeat (first | exact (Kd.V_reads' HO_282001.out).2.2 | (with_reducible refine Kd.C_alloc ?_ _) | (with_reducible refine Kd.C_drewN ?_ _) | (with_reducible refine Kd.C_drew ?_))); (case side2 => exact (Kd.V_reads' HO_282001.out).2.1); rintro e w77 ⟨rfl, hb⟩; refine ⟨_, rfl, ?_⟩; have n0_ := Aside0.mk (Kd.V_below (by (with_reducible repeat (first | apply Kd.V_alloc | apply Kd.V_drewN | apply Kd.V_drew)); exact HO_282001.out) hb); have n1_ := Aside0.mk (Kd.R_below (by (with_reducible repeat (first | apply Kd.R_alloc | apply Kd.R_drewN | apply Kd.R_drew)); exact HO_289001.out) hb); have n2_ := Aside0.mk (blk_below (g := gb281) (o := .cells #[.int .i64 t283, .slice Ao12 t284.length co12] 29 (0, 0)) (by (with_reducible repeat (first | refine blk_drewN ?_ _ | refine blk_drew ?_ | refine blk_alloc ?_ _)); exact BK281.out) hb); have n3_ := Aside0.mk (blk_below (g := gb282) (o := .cells #[.int .i64 0, .slice none 0 0] 29 (0, 0)) (by (with_reducible repeat (first | refine blk_drewN ?_ _ | refine blk_drew ?_ | refine blk_alloc ?_ _)); exact BK282.out) hb); have n4_ := Aside0.mk (blk_below (g := gb288) (o := .cells #[.int .i64 (wrap64 (t283 + 1)), u289001] 29 (0, 0)) (by (with_reducible repeat (first | refine blk_drewN ?_ _ | refine blk_drew ?_ | refine blk_alloc ?_ _)); exact BK288.out) hb); have n5_ := Aside0.mk (below_step (by repeat (first | (with_reducible first | exact HB.out | apply below_alloc | apply pw_below_drewN | apply below_drew1 | refine below_set ?_ GE281.out | refine below_set ?_ GE282.out | refine below_set ?_ GE288.out) | exact HB.out)) hb); clear HO_282001; clear HO_289001; clear BK281; clear BK282; clear BK288; clear HB; have HO_282001 := n0_; have HO_289001 := n1_; have BK281 := n2_; have BK282 := n3_; have BK288 := n4_; have HB := n5_; clear n0_ n1_ n2_ n3_ n4_ n5_; (try clear hb); (try clear hb2); (try clear hk); (try clear hi); have hnb78 := NB288_282.out; have hnc78 := NB282_288.out; have hcz79_0 : w77.cell? ⟨gb288, 0, none⟩ = some (.int .i64 (wrap64 (t283 + 1))) := (blk_cell BK288.out 0).trans rfl; have hcz79_1 : w77.cell? ⟨gb288, 1, none⟩ = some (u289001) := (blk_cell BK288.out 1).trans rfl; have hfz79_0 := blk_frozen BK288.out 0; have hfz79_1 := blk_frozen BK288.out 1) | ((with_reducible refine gate_builtin (b := .append) (xs := #[.tmp 71, .tmp 75]) rfl ?_); (try (refine gate_guard (by rfl) ?_; dsimp only)); at_builtin; refine Kd.R_append k60 (w0 := w) w.heap.size rfl (.tmp 71) (.tmp 75) 27 60 (.agg #[(.int .i64 0), (.int .i64 0)]) 16 rfl Try.underlying27 info60 rfl (by decide) (by omega) u289001 x289001_3 (⟨x10_3, t289⟩ : S60) [.int .i64 x10_3, .int .i64 t289] (fun k_ => (w.heap.size ≤ k_)) (fun _ => False) rfl rfl ?aP (fun _ hk => hk.elim) ?aF ?aO ?aB ?aS ?aL ?_; (case aP => exact k60_mkM _ _ _ (⟨x10_3, t289⟩ : S60)); (case aB => exact (by repeat (first | (with_reducible first | exact HB.out | apply below_alloc | apply pw_below_drewN | apply below_drew1 | refine below_set ?_ GE281.out | refine below_set ?_ GE282.out | refine below_set ?_ GE288.out) | exact HB.out))); (case aF => exact (fun k_ hk => (Nat.le_trans (below_size (by repeat (first | (with_reducible first | exact HB.out | apply below_alloc | apply pw_below_drewN | apply below_drew1 | refine below_set ?_ GE281.out | refine below_set ?_ GE282.out | refine below_set ?_ GE288.out) | exact HB.out))) hk))); (case aO => exact (by (with_reducible repeat (first | apply Kd.R_alloc | apply Kd.R_drewN | apply Kd.R_drew)); exact HO_289001.out)); (case aS => exact (below_size (by repeat (first | (with_reducible first | exact HB.out | apply below_alloc | apply pw_below_drewN | apply below_drew1 | refine below_set ?_ GE281.out | refine below_set ?_ GE282.out | refine below_set ?_ GE288.out) | exact HB.out)))); (case aL => have := LMc73.out; omega); intro v294 w80 ho hb hg hat; rw [← Ny293.out] at ho; have n0_ := Aside0.mk (Kd.V_afterv (ok := (fun k_ => (P0_1_ k_ ∨ w.heap.size ≤ k_) ∧ k_ ≠ gb281 ∧ k_ ≠ gb282 ∧ k_ ≠ gb288)) (by (with_reducible repeat (first | apply Kd.V_alloc | apply Kd.V_drewN | apply Kd.V_drew)); exact Kd.V_mono HO_282001.out (fun _ hk => ⟨⟨hk.1, ⟨hk.2.2.1, ⟨hk.2.2.2.1, hk.2.2.2.2⟩⟩⟩, hk.2.1⟩)) hg hat); have n1_ := Aside0.mk (blk_grown (g := gb281) (o := .cells #[.int .i64 t283, .slice Ao12 t284.length co12] 29 (0, 0)) (by (with_reducible repeat (first | refine blk_drewN ?_ _ | refine blk_drew ?_ | refine blk_alloc ?_ _)); exact BK281.out) hg (Kd.R_ne HO_289001.out BK281.out (by decide))); have n2_ := Aside0.mk (blk_grown (g := gb282) (o := .cells #[.int .i64 0, .slice none 0 0] 29 (0, 0)) (by (with_reducible repeat (first | refine blk_drewN ?_ _ | refine blk_drew ?_ | refine blk_alloc ?_ _)); exact BK282.out) hg (Kd.R_ne HO_289001.out BK282.out (by decide))); have n3_ := Aside0.mk (blk_grown (g := gb288) (o := .cells #[.int .i64 (wrap64 (t283 + 1)), u289001] 29 (0, 0)) (by (with_reducible repeat (first | refine blk_drewN ?_ _ | refine blk_drew ?_ | refine blk_alloc ?_ _)); exact BK288.out) hg (Kd.R_ne HO_289001.out BK288.out (by decide))); have n4_ := Aside0.mk (hb); have n5_ := Aside0.mk (ho); clear HO_282001; clear BK281; clear BK282; clear BK288; clear HB; clear HO_289001; have HO_282001 := n0_; have BK281 := n1_; have BK282 := n2_; have BK288 := n3_; have HB := n4_; have HO295 := n5_; clear n0_ n1_ n2_ n3_ n4_ n5_; clear ho hb hg hat; obtain ⟨Ao81, co81, eo81⟩ := Kd.R_slice HO295.out; subst eo81; have hcz82_0 : w80.cell? ⟨gb288, 0, none⟩ = some (.int .i64 (wrap64 (t283 + 1))) := (blk_cell BK288.out 0).trans rfl; have hcz82_1 : w80.cell? ⟨gb288, 1, none⟩ = some (u289001) := (blk_cell BK288.out 1).trans rfl; have hfz82_0 := blk_frozen BK288.out 0; have hfz82_1 := blk_frozen BK288.out 1))
                go_roundg k3
                case measure => have := HJ4.out; have := HJ36.out; have := HK3.out; omega
                case rel => exact ⟨(wrap64 (x10_3 + 1)), (y293), (.slice Ao81 y293.length co81), (by first | rfl | (simp; done) | (simp [*]; done)), H', ⟨by have := HJ4.out; have := HJ36.out; have := HK3.out; omega⟩, ⟨by (with_reducible repeat (first | apply Kd.V_alloc | apply Kd.V_drewN | apply Kd.V_drew)); exact Kd.V_mono (Kd.V_far (p := ⟨gb288, 1, none⟩) (Kd.V_mono HO_282001.out (fun k_ hk => (⟨hk, hk.1.2.2.2⟩ : _ ∧ k_ ≠ gb288))) (fun _ hk => hk.2) (.slice Ao81 y293.length co81)) (fun _ hk => ⟨hk.1.1.1, ⟨hk.1.2, ⟨hk.1.1.2.1, ⟨hk.1.1.2.2.1, hk.1.1.2.2.2⟩⟩⟩⟩)⟩, ⟨by (with_reducible repeat (first | apply Kd.R_alloc | apply Kd.R_drewN | apply Kd.R_drew)); exact Kd.R_mono (Kd.R_far (p := ⟨gb288, 1, none⟩) (Kd.R_types HO295.out BK288.out (by decide)) (fun _ hk => hk.2) (.slice Ao81 y293.length co81)) (fun _ hk => hk.1)⟩, ⟨by (with_reducible repeat (first | refine blk_drewN ?_ _ | refine blk_drew ?_ | refine blk_alloc ?_ _)); refine blk_far ?_ NB281_288.out _; (with_reducible repeat (first | refine blk_drewN ?_ _ | refine blk_drew ?_ | refine blk_alloc ?_ _)); exact BK281.out⟩, ⟨by (with_reducible repeat (first | refine blk_drewN ?_ _ | refine blk_drew ?_ | refine blk_alloc ?_ _)); refine blk_far ?_ NB282_288.out _; (with_reducible repeat (first | refine blk_drewN ?_ _ | refine blk_drew ?_ | refine blk_alloc ?_ _)); exact BK282.out⟩, ⟨by (with_reducible repeat (first | refine blk_drewN ?_ _ | refine blk_drew ?_ | refine blk_alloc ?_ _)); refine blk_put (cs := #[.int .i64 (wrap64 (t283 + 1)), u289001]) ?_ 1 _ rfl; (with_reducible repeat (first | refine blk_drewN ?_ _ | refine blk_drew ?_ | refine blk_alloc ?_ _)); exact BK288.out⟩, ⟨by repeat (first | (with_reducible first | exact HB.out | apply below_alloc | apply pw_below_drewN | apply below_drew1 | refine below_set ?_ GE281.out | refine below_set ?_ GE282.out | refine below_set ?_ GE288.out) | exact HB.out)⟩⟩
               ·rw [if_neg c73] at H
                exact absurd H (by simp)
              ·rw [if_neg c72] at H
               have c72b0 : decide (0 < t289) = false := decide_eq_false c72
               clear c72
               have H' := Aside0.mk H
               clear H
               have hnb83 := NB281_282.out
               have hnc83 := NB282_281.out
               have hnb84 := NB281_288.out
               have hnc84 := NB288_281.out
               have hcz85_0 : wr.cell? ⟨gb281, 0, none⟩ = some (.int .i64 t283) := (blk_cell BK281.out 0).trans rfl
               have hcz85_1 : wr.cell? ⟨gb281, 1, none⟩ = some (.slice Ao12 t284.length co12) := (blk_cell BK281.out 1).trans rfl
               have hfz85_0 := blk_frozen BK281.out 0
               have hfz85_1 := blk_frozen BK281.out 1
               go_wp2_with (first | ((with_reducible refine gate_callee (f := 13) rfl ?_); refine goesL_ (some 63) rfl rfl Try.func13 (by kernel_rfl) rfl #[.agg #[.int .i64 t283, .slice Ao12 t284.length co12], .int .i64 x10_3] rfl (by (try simp only [List.map_toArray, List.map_cons, List.map_nil]); first | done | rfl | (simp only [List.length_drop, List.length_take]; rfl)) ?_; (with_reducible refine (haywainref11_Inc.calls k3 t283 _ _ t284 x10_3 t289 _ ?side1 ?side2 A55.out).mono ?_); (case side1 => repeat (first | exact (Kd.V_reads' HO_282001.out).2.2 | (with_reducible refine Kd.C_alloc ?_ _) | (with_reducible refine Kd.C_drewN ?_ _) | (with_reducible refine Kd.C_drew ?_))); (case side2 => exact (Kd.V_reads' HO_282001.out).2.1); rintro e w86 ⟨rfl, hb⟩; refine ⟨_, rfl, ?_⟩; have n0_ := Aside0.mk (Kd.V_below (by (with_reducible repeat (first | apply Kd.V_alloc | apply Kd.V_drewN | apply Kd.V_drew)); exact HO_282001.out) hb); have n1_ := Aside0.mk (Kd.R_below (by (with_reducible repeat (first | apply Kd.R_alloc | apply Kd.R_drewN | apply Kd.R_drew)); exact HO_289001.out) hb); have n2_ := Aside0.mk (blk_below (g := gb281) (o := .cells #[.int .i64 t283, .slice Ao12 t284.length co12] 29 (0, 0)) (by (with_reducible repeat (first | refine blk_drewN ?_ _ | refine blk_drew ?_ | refine blk_alloc ?_ _)); exact BK281.out) hb); have n3_ := Aside0.mk (blk_below (g := gb282) (o := .cells #[.int .i64 0, .slice none 0 0] 29 (0, 0)) (by (with_reducible repeat (first | refine blk_drewN ?_ _ | refine blk_drew ?_ | refine blk_alloc ?_ _)); exact BK282.out) hb); have n4_ := Aside0.mk (blk_below (g := gb288) (o := .cells #[.int .i64 (wrap64 (t283 + 1)), u289001] 29 (0, 0)) (by (with_reducible repeat (first | refine blk_drewN ?_ _ | refine blk_drew ?_ | refine blk_alloc ?_ _)); exact BK288.out) hb); have n5_ := Aside0.mk (below_step (by repeat (first | (with_reducible first | exact HB.out | apply below_alloc | apply pw_below_drewN | apply below_drew1 | refine below_set ?_ GE281.out | refine below_set ?_ GE282.out | refine below_set ?_ GE288.out) | exact HB.out)) hb); clear HO_282001; clear HO_289001; clear BK281; clear BK282; clear BK288; clear HB; have HO_282001 := n0_; have HO_289001 := n1_; have BK281 := n2_; have BK282 := n3_; have BK288 := n4_; have HB := n5_; clear n0_ n1_ n2_ n3_ n4_ n5_; (try clear hb); (try clear hb2); (try clear hk); (try clear hi)))
               go_roundg k3
               case measure => have := HJ4.out; have := HJ36.out; have := HK3.out; omega
               case rel => exact ⟨(wrap64 (x10_3 + 1)), (x289001_3), (u289001), (by first | rfl | (simp; done) | (simp [*]; done)), H', ⟨by have := HJ4.out; have := HJ36.out; have := HK3.out; omega⟩, ⟨by (with_reducible repeat (first | apply Kd.V_alloc | apply Kd.V_drewN | apply Kd.V_drew)); exact HO_282001.out⟩, ⟨by (with_reducible repeat (first | apply Kd.R_alloc | apply Kd.R_drewN | apply Kd.R_drew)); exact HO_289001.out⟩, ⟨by (with_reducible repeat (first | refine blk_drewN ?_ _ | refine blk_drew ?_ | refine blk_alloc ?_ _)); exact BK281.out⟩, ⟨by (with_reducible repeat (first | refine blk_drewN ?_ _ | refine blk_drew ?_ | refine blk_alloc ?_ _)); exact BK282.out⟩, ⟨by (with_reducible repeat (first | refine blk_drewN ?_ _ | refine blk_drew ?_ | refine blk_alloc ?_ _)); exact BK288.out⟩, ⟨by repeat (first | (with_reducible first | exact HB.out | apply below_alloc | apply pw_below_drewN | apply below_drew1 | refine below_set ?_ GE281.out | refine below_set ?_ GE282.out | refine below_set ?_ GE288.out) | exact HB.out)⟩⟩
            ·rw [if_neg c54] at H
             have c54b0 : decide (x10_3 ≤ 99) = false := decide_eq_false c54
             clear c54
             simp only [Option.some.injEq, Prod.mk.injEq] at H
             obtain ⟨rfl, rfl, rfl⟩ := H
             have hnb87 := NB288_281.out
             have hnc87 := NB281_288.out
             have hnb88 := NB288_282.out
             have hnc88 := NB282_288.out
             have hcz89_0 : wr.cell? ⟨gb288, 0, none⟩ = some (.int .i64 (wrap64 (t283 + 1))) := (blk_cell BK288.out 0).trans rfl
             have hcz89_1 : wr.cell? ⟨gb288, 1, none⟩ = some (u289001) := (blk_cell BK288.out 1).trans rfl
             have hfz89_0 := blk_frozen BK288.out 0
             have hfz89_1 := blk_frozen BK288.out 1
             have hnb90 := NB282_281.out
             have hnc90 := NB281_282.out
             have hcz91_0 : wr.cell? ⟨gb282, 0, none⟩ = some (.int .i64 0) := (blk_cell BK282.out 0).trans rfl
             have hcz91_1 : wr.cell? ⟨gb282, 1, none⟩ = some (.slice none 0 0) := (blk_cell BK282.out 1).trans rfl
             have hfz91_0 := blk_frozen BK282.out 0
             have hfz91_1 := blk_frozen BK282.out 1
             obtain ⟨Ao92, co92, eo92⟩ := Kd.R_slice HO_289001.out
             subst eo92
             go_wp2
             refine bodyPost_ret (results_ct rfl _ _ gb282 29 #[.int .i64 (wrap64 (t283 + 1)), .slice Ao92 x289001_3.length co92] (0, 0) _ rfl (by (with_reducible repeat (first | refine blk_drewN ?_ _ | refine blk_drew ?_ | refine blk_alloc ?_ _)); refine blk_put (cs := #[.int .i64 (wrap64 (t283 + 1)), .slice none 0 0]) ?_ 1 _ rfl; (with_reducible repeat (first | refine blk_drewN ?_ _ | refine blk_drew ?_ | refine blk_alloc ?_ _)); refine blk_put (cs := #[.int .i64 0, .slice none 0 0]) ?_ 0 _ rfl; (with_reducible repeat (first | refine blk_drewN ?_ _ | refine blk_drew ?_ | refine blk_alloc ?_ _)); exact BK282.out) Try.underlying29 rfl (by kernel_rfl)) rfl ?_
             exact ⟨_, by first | rfl | (simp [errW_none, errW_some] <;> rfl) | (simp [*, errW_none, errW_some] <;> rfl), Kd.V_mono (Kd.R_V (by (with_reducible repeat (first | apply Kd.R_alloc | apply Kd.R_drewN | apply Kd.R_drew)); exact Kd.R_mono (Kd.R_far (p := ⟨gb282, 1, none⟩) (Kd.R_far (p := ⟨gb282, 0, none⟩) (Kd.R_types HO_289001.out BK282.out (by decide)) (fun _ hk => hk.2) (.int .i64 (wrap64 (t283 + 1)))) (fun _ hk => hk.2) (.slice Ao92 x289001_3.length co92)) (fun _ hk => hk.1))) (fun k_ hk => by first | exact ⟨(.inr (hk.1)), hk.2⟩ | exact (.inr (hk))), by repeat (first | (with_reducible first | exact HB.out | apply below_alloc | apply pw_below_drewN | apply below_drew1 | refine below_set ?_ GE281.out | refine below_set ?_ GE282.out | refine below_set ?_ GE288.out) | exact HB.out)⟩

end Go.Proofs.Ytgfaejkgkhdihaa.PView
