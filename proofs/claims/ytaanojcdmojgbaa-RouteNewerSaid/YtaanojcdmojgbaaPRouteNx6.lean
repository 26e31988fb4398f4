-- Printed for this claim by a turned copy of the print (wip/tools/patch.py); a text of this session, not of print.sh.
import Derived.Test.YtaanojcdmojgbaaPRouteNx0
import Derived.Test.YtaanojcdmojgbaaPRouteNx5
import Derived.Test.YtaanojcdmojgbaaXStrip
namespace Go.Proofs.Ytaanojcdmojgbaa.PRouteN
open Go.RowKit Go.Proofs.YtaanojcdmojgbaaW.PrintWords Go.Proofs.YtaanojcdmojgbaaW.PrintLast Go.Proofs.YtaanojcdmojgbaaW.PrintMore
attribute [local go_sem] max2_int min2_int max_two min_two max_three min_three max_four min_four   -- for this text's walks alone
set_option linter.unusedVariables false
set_option linter.unusedSimpArgs false

/-! ### haywainref17_Right: function 12 -/
mutual
def haywainref17_Right.j0 : Nat → Bool → Int → List Int → List Int → List Int → Option (Bool)
 | 0, _, _, _, _, _ => none
 | k + 1, x33, x220000, x220001, x220002, x220003 => if x33 = true then (some false) else (haywainref17_Right.l0 k 0 x220000 x220001 x220002 x220003)
def haywainref17_Right.l0 : Nat → Int → Int → List Int → List Int → List Int → Option (Bool)
 | 0, _, _, _, _, _ => none
 | k + 1, x3, x220000, x220001, x220002, x220003 => if x3 < (x220002.length : Int) then (if 0 ≤ x3 then (if (rd x220002 x3) < 1 then (some false) else (if (rd x220002 x3) > 99 then (some false) else (if x3 < (x220003.length : Int) then (if (rd x220003 x3) < 1 then (some false) else (if (rd x220003 x3) > 1099511627776 then (some false) else (if x3 > 0 then (if 0 ≤ (wrap64 (x3 - 1)) then (if (wrap64 (x3 - 1)) < (x220002.length : Int) then (if (rd x220002 (wrap64 (x3 - 1))) ≥ (rd x220002 x3) then (some false) else (haywainref17_Right.l0 k (wrap64 (x3 + 1)) x220000 x220001 x220002 x220003)) else (none)) else (none)) else (haywainref17_Right.l0 k (wrap64 (x3 + 1)) x220000 x220001 x220002 x220003)))) else (none)))) else (none)) else (haywainref17_Right.l1 k 0 x220000 x220001 x220002 x220003)
def haywainref17_Right.l1 : Nat → Int → Int → List Int → List Int → List Int → Option (Bool)
 | 0, _, _, _, _, _ => none
 | k + 1, x4, x220000, x220001, x220002, x220003 => if x4 < (x220001.length : Int) then (if 0 ≤ x4 then ((haywainref09_Has.f k x220002 (rd x220001 x4)).bind fun t227 => (if t227 = true then (haywainref17_Right.l1 k (wrap64 (x4 + 1)) x220000 x220001 x220002 x220003) else (some false))) else (none)) else (some true)
end
def haywainref17_Right.f (k : Nat) (a0_0 : Int) (l0_1 : List Int) (l0_2 : List Int) (l0_3 : List Int) : Option (Bool) := if a0_0 < 0 then (haywainref17_Right.j0 k true a0_0 l0_1 l0_2 l0_3) else (if a0_0 > 1099511627776 then (haywainref17_Right.j0 k true a0_0 l0_1 l0_2 l0_3) else (if (l0_2.length : Int) > 5 then (haywainref17_Right.j0 k true a0_0 l0_1 l0_2 l0_3) else (if (l0_3.length : Int) = (l0_2.length : Int) then (haywainref17_Right.j0 k (decide ((l0_1.length : Int) > 6)) a0_0 l0_1 l0_2 l0_3) else (haywainref17_Right.j0 k true a0_0 l0_1 l0_2 l0_3))))
theorem haywainref17_Right.mono_l : ∀ k, (∀ y0 y1 y2 y3 y4, LeO (haywainref17_Right.j0 k y0 y1 y2 y3 y4) (haywainref17_Right.j0 (k + 1) y0 y1 y2 y3 y4)) ∧ (∀ y0 y1 y2 y3 y4, LeO (haywainref17_Right.l0 k y0 y1 y2 y3 y4) (haywainref17_Right.l0 (k + 1) y0 y1 y2 y3 y4)) ∧ (∀ y0 y1 y2 y3 y4, LeO (haywainref17_Right.l1 k y0 y1 y2 y3 y4) (haywainref17_Right.l1 (k + 1) y0 y1 y2 y3 y4))
 | 0 => ⟨fun _ _ _ _ _ r h => by simp [haywainref17_Right.j0] at h, fun _ _ _ _ _ r h => by simp [haywainref17_Right.l0] at h, fun _ _ _ _ _ r h => by simp [haywainref17_Right.l1] at h⟩
 | k + 1 => by
  obtain ⟨ih0, ih1, ih2⟩ := haywainref17_Right.mono_l k
  refine ⟨?_, ?_, ?_⟩
  ·intro y0 y1 y2 y3 y4
   unfold haywainref17_Right.j0
   repeat' first
   | (with_reducible exact ih0 _ _ _ _ _)
   | (with_reducible exact ih1 _ _ _ _ _)
   | (with_reducible exact ih2 _ _ _ _ _)
   | (with_reducible exact haywainref09_Has.mono _ _ _)
   | (with_reducible exact LeO.refl _)
   | (with_reducible exact LeO.none _)
   | (with_reducible refine LeO.ite ?_ ?_)
   | (with_reducible refine LeO.bind ?_ (fun _ => ?_))
   | exact ih0 _ _ _ _ _
   | exact ih1 _ _ _ _ _
   | exact ih2 _ _ _ _ _
   | exact haywainref09_Has.mono _ _ _
   | exact LeO.none _
   | refine LeO.ite ?_ ?_
   | refine LeO.bind ?_ (fun _ => ?_)
  ·intro y0 y1 y2 y3 y4
   unfold haywainref17_Right.l0
   repeat' first
   | (with_reducible exact ih0 _ _ _ _ _)
   | (with_reducible exact ih1 _ _ _ _ _)
   | (with_reducible exact ih2 _ _ _ _ _)
   | (with_reducible exact haywainref09_Has.mono _ _ _)
   | (with_reducible exact LeO.refl _)
   | (with_reducible exact LeO.none _)
   | (with_reducible refine LeO.ite ?_ ?_)
   | (with_reducible refine LeO.bind ?_ (fun _ => ?_))
   | exact ih0 _ _ _ _ _
   | exact ih1 _ _ _ _ _
   | exact ih2 _ _ _ _ _
   | exact haywainref09_Has.mono _ _ _
   | exact LeO.none _
   | refine LeO.ite ?_ ?_
   | refine LeO.bind ?_ (fun _ => ?_)
  ·intro y0 y1 y2 y3 y4
   unfold haywainref17_Right.l1
   repeat' first
   | (with_reducible exact ih0 _ _ _ _ _)
   | (with_reducible exact ih1 _ _ _ _ _)
   | (with_reducible exact ih2 _ _ _ _ _)
   | (with_reducible exact haywainref09_Has.mono _ _ _)
   | (with_reducible exact LeO.refl _)
   | (with_reducible exact LeO.none _)
   | (with_reducible refine LeO.ite ?_ ?_)
   | (with_reducible refine LeO.bind ?_ (fun _ => ?_))
   | exact ih0 _ _ _ _ _
   | exact ih1 _ _ _ _ _
   | exact ih2 _ _ _ _ _
   | exact haywainref09_Has.mono _ _ _
   | exact LeO.none _
   | refine LeO.ite ?_ ?_
   | refine LeO.bind ?_ (fun _ => ?_)
theorem haywainref17_Right.mono : ∀ a0 a1 a2 a3 k, LeO (haywainref17_Right.f k a0 a1 a2 a3) (haywainref17_Right.f (k + 1) a0 a1 a2 a3) := by
 intro a0 a1 a2 a3 k
 obtain ⟨ih0, ih1, ih2⟩ := haywainref17_Right.mono_l k
 unfold haywainref17_Right.f
 repeat' first
   | (with_reducible exact ih0 _ _ _ _ _)
   | (with_reducible exact ih1 _ _ _ _ _)
   | (with_reducible exact ih2 _ _ _ _ _)
   | (with_reducible exact haywainref09_Has.mono _ _ _)
   | (with_reducible exact LeO.refl _)
   | (with_reducible exact LeO.none _)
   | (with_reducible refine LeO.ite ?_ ?_)
   | (with_reducible refine LeO.bind ?_ (fun _ => ?_))
   | exact ih0 _ _ _ _ _
   | exact ih1 _ _ _ _ _
   | exact ih2 _ _ _ _ _
   | exact haywainref09_Has.mono _ _ _
   | exact LeO.none _
   | refine LeO.ite ?_ ?_
   | refine LeO.bind ?_ (fun _ => ?_)
set_option maxHeartbeats 8000000 in
set_option maxRecDepth 100000 in
theorem haywainref17_Right.calls (k : Nat) (a0_0 : Int) (A0_1 : Option Addr) (c0_1 : Nat) (l0_1 : List Int) (A0_2 : Option Addr) (c0_2 : Nat) (l0_2 : List Int) (A0_3 : Option Addr) (c0_3 : Nat) (l0_3 : List Int) (r : Bool) (w : World) (hr0_1 : Kd.C (Kd.int .i64) w A0_1 l0_1.length l0_1) (hc0_1 : l0_1.length ≤ c0_1) (hr0_2 : Kd.C (Kd.int .i64) w A0_2 l0_2.length l0_2) (hc0_2 : l0_2.length ≤ c0_2) (hr0_3 : Kd.C (Kd.int .i64) w A0_3 l0_3.length l0_3) (hc0_3 : l0_3.length ≤ c0_3) (h : haywainref17_Right.f k a0_0 l0_1 l0_2 l0_3 = some r) :
  Calls Try.prog 12 #[.agg #[.int .i64 a0_0, .slice A0_1 l0_1.length c0_1, .slice A0_2 l0_2.length c0_2, .slice A0_3 l0_3.length c0_3]] w fun e w' => e = .returned (.bool r) ∧ Below w.heap.size w w' := by
 have hu28 := Try.underlying28
 have HR0_1 := Aside0.mk hr0_1
 have HC0_1 := Aside0.mk hc0_1
 clear hr0_1 hc0_1
 have HR0_2 := Aside0.mk hr0_2
 have HC0_2 := Aside0.mk hc0_2
 clear hr0_2 hc0_2
 have HR0_3 := Aside0.mk hr0_3
 have HC0_3 := Aside0.mk hc0_3
 clear hr0_3 hc0_3
 have HB := Aside0.mk (Below.refl w.heap.size w)
 have H : (if a0_0 < 0 then (haywainref17_Right.j0 k true a0_0 l0_1 l0_2 l0_3) else (if a0_0 > 1099511627776 then (haywainref17_Right.j0 k true a0_0 l0_1 l0_2 l0_3) else (if (l0_2.length : Int) > 5 then (haywainref17_Right.j0 k true a0_0 l0_1 l0_2 l0_3) else (if (l0_3.length : Int) = (l0_2.length : Int) then (haywainref17_Right.j0 k (decide ((l0_1.length : Int) > 6)) a0_0 l0_1 l0_2 l0_3) else (haywainref17_Right.j0 k true a0_0 l0_1 l0_2 l0_3))))) = some r := h
 clear h
 have HC2 := Aside0.mk H
 clear H
 go_enter Try.func12, Try.ntmps12
 go_upto_region 1 with (first | ((with_reducible refine gate_dst (N := 1) rfl ?_); (try (refine gate_guard (by rfl) ?_; dsimp only)); refine box_event ?hg (N := 1) ?hd (cs := #[.int .i64 a0_0, .slice A0_1 l0_1.length c0_1, .slice A0_2 l0_2.length c0_2, .slice A0_3 l0_3.length c0_3]) (t := 28) ?hr ?_; (case hd => rfl); (case hg => rfl); (case hr => first | (go_simp; done) | (go_simp; rfl)); intro gb219 hg w3 hbox hb; have n0_ := Aside0.mk (below_step (BW HB.out) hb); have n1_ := Aside0.mk (hbox); have n2_ := Aside0.mk ((by rw [hg]; exact (below_size (BW HB.out)) : w.heap.size ≤ gb219)); have n3_ := Aside0.mk ((by rw [hg]; exact (below_size (BW HB.out)) : w.heap.size ≤ gb219)); clear HB; have HB := n0_; have BK219 := n1_; have GW219 := n2_; have GE219 := n3_; clear n0_ n1_ n2_ n3_; clear hb hbox hg))
 repeat (go_quiet (first | ((with_reducible refine gate_dst (N := 1) rfl ?_); (try (refine gate_guard (by rfl) ?_; dsimp only)); refine box_event ?hg (N := 1) ?hd (cs := #[.int .i64 a0_0, .slice A0_1 l0_1.length c0_1, .slice A0_2 l0_2.length c0_2, .slice A0_3 l0_3.length c0_3]) (t := 28) ?hr ?_; (case hd => rfl); (case hg => rfl); (case hr => first | (go_simp; done) | (go_simp; rfl)); intro gb219 hg w3 hbox hb; have n0_ := Aside0.mk (below_step (BW HB.out) hb); have n1_ := Aside0.mk (hbox); have n2_ := Aside0.mk ((by rw [hg]; exact (below_size (BW HB.out)) : w.heap.size ≤ gb219)); have n3_ := Aside0.mk ((by rw [hg]; exact (below_size (BW HB.out)) : w.heap.size ≤ gb219)); clear HB; have HB := n0_; have BK219 := n1_; have GW219 := n2_; have GE219 := n3_; clear n0_ n1_ n2_ n3_; clear hb hbox hg)); go_upto_region 1 with (first | ((with_reducible refine gate_dst (N := 1) rfl ?_); (try (refine gate_guard (by rfl) ?_; dsimp only)); refine box_event ?hg (N := 1) ?hd (cs := #[.int .i64 a0_0, .slice A0_1 l0_1.length c0_1, .slice A0_2 l0_2.length c0_2, .slice A0_3 l0_3.length c0_3]) (t := 28) ?hr ?_; (case hd => rfl); (case hg => rfl); (case hr => first | (go_simp; done) | (go_simp; rfl)); intro gb219 hg w3 hbox hb; have n0_ := Aside0.mk (below_step (BW HB.out) hb); have n1_ := Aside0.mk (hbox); have n2_ := Aside0.mk ((by rw [hg]; exact (below_size (BW HB.out)) : w.heap.size ≤ gb219)); have n3_ := Aside0.mk ((by rw [hg]; exact (below_size (BW HB.out)) : w.heap.size ≤ gb219)); clear HB; have HB := n0_; have BK219 := n1_; have GW219 := n2_; have GE219 := n3_; clear n0_ n1_ n2_ n3_; clear hb hbox hg)))
 (try simp only [Act.put, List.setIfInBounds_toArray, List.set_cons_zero, List.set_cons_succ])
 go_cut [33] (fun v33 wc => ∃ (kq : Nat) (x33_1 : Bool), v33 = .bool x33_1 ∧ Aside0 (haywainref17_Right.j0 kq x33_1 a0_0 l0_1 l0_2 l0_3 = some r) ∧ Aside0 (kq ≤ k) ∧ Aside0 (wc.heap[gb219]? = some (.cells #[.int .i64 a0_0, (.slice A0_1 l0_1.length c0_1), (.slice A0_2 l0_2.length c0_2), (.slice A0_3 l0_3.length c0_3)] 28 (0, 0))) ∧ Aside0 (Below w.heap.size w wc))
 case first =>
  have H := HC2.out
  clear HC2
  by_cases c4 : a0_0 < 0
  ·rw [if_pos c4] at H
   have c4b0 : decide (a0_0 < 0) = true := decide_eq_true c4
   clear c4
   (first | rw [c4b0] | (simp only [i64_w, i32_w]; rw [c4b0]) | skip)
   have H' := Aside0.mk H
   clear H
   have hcz5_0 : w3.cell? ⟨gb219, 0, none⟩ = some (.int .i64 a0_0) := (blk_cell BK219.out 0).trans rfl
   have hcz5_1 : w3.cell? ⟨gb219, 1, none⟩ = some (.slice A0_1 l0_1.length c0_1) := (blk_cell BK219.out 1).trans rfl
   have hcz5_2 : w3.cell? ⟨gb219, 2, none⟩ = some (.slice A0_2 l0_2.length c0_2) := (blk_cell BK219.out 2).trans rfl
   have hcz5_3 : w3.cell? ⟨gb219, 3, none⟩ = some (.slice A0_3 l0_3.length c0_3) := (blk_cell BK219.out 3).trans rfl
   have hfz5_0 := blk_frozen BK219.out 0
   have hfz5_1 := blk_frozen BK219.out 1
   have hfz5_2 := blk_frozen BK219.out 2
   have hfz5_3 := blk_frozen BK219.out 3
   go_wp2
   repeat (go_quiet (fail); try go_wp2)
   go_meet
   case rel => exact ⟨_, (true), (by first | rfl | (simp; done) | (simp [*]; done)), H', ⟨by first | omega | exact Nat.le_refl _⟩, ⟨BL BK219.out⟩, ⟨by repeat (first | (with_reducible first | exact HB.out | apply below_alloc | apply pw_below_drewN | apply below_drew1 | refine below_set ?_ (Aside0.out (by assumption))) | exact HB.out)⟩⟩
  ·rw [if_neg c4] at H
   have c4b0 : decide (a0_0 < 0) = false := decide_eq_false c4
   clear c4
   (first | rw [c4b0] | (simp only [i64_w, i32_w]; rw [c4b0]) | skip)
   by_cases c6 : a0_0 > 1099511627776
   ·rw [if_pos c6] at H
    have c6b0 : decide (1099511627776 < a0_0) = true := decide_eq_true c6
    clear c6
    have H' := Aside0.mk H
    clear H
    have hcz7_0 : w3.cell? ⟨gb219, 0, none⟩ = some (.int .i64 a0_0) := (blk_cell BK219.out 0).trans rfl
    have hcz7_1 : w3.cell? ⟨gb219, 1, none⟩ = some (.slice A0_1 l0_1.length c0_1) := (blk_cell BK219.out 1).trans rfl
    have hcz7_2 : w3.cell? ⟨gb219, 2, none⟩ = some (.slice A0_2 l0_2.length c0_2) := (blk_cell BK219.out 2).trans rfl
    have hcz7_3 : w3.cell? ⟨gb219, 3, none⟩ = some (.slice A0_3 l0_3.length c0_3) := (blk_cell BK219.out 3).trans rfl
    have hfz7_0 := blk_frozen BK219.out 0
    have hfz7_1 := blk_frozen BK219.out 1
    have hfz7_2 := blk_frozen BK219.out 2
    have hfz7_3 := blk_frozen BK219.out 3
    go_wp2
    repeat (go_quiet (fail); try go_wp2)
    go_meet
    case rel => exact ⟨_, (true), (by first | rfl | (simp; done) | (simp [*]; done)), H', ⟨by first | omega | exact Nat.le_refl _⟩, ⟨BL BK219.out⟩, ⟨by repeat (first | (with_reducible first | exact HB.out | apply below_alloc | apply pw_below_drewN | apply below_drew1 | refine below_set ?_ (Aside0.out (by assumption))) | exact HB.out)⟩⟩
   ·rw [if_neg c6] at H
    have c6b0 : decide (1099511627776 < a0_0) = false := decide_eq_false c6
    clear c6
    by_cases c8 : (l0_2.length : Int) > 5
    ·rw [if_pos c8] at H
     have c8b0 : decide (5 < (l0_2.length : Int)) = true := decide_eq_true c8
     have c8b1 : decide (5 < l0_2.length) = true := decide_eq_true (by omega)
     clear c8
     have H' := Aside0.mk H
     clear H
     have hcz9_0 : w3.cell? ⟨gb219, 0, none⟩ = some (.int .i64 a0_0) := (blk_cell BK219.out 0).trans rfl
     have hcz9_1 : w3.cell? ⟨gb219, 1, none⟩ = some (.slice A0_1 l0_1.length c0_1) := (blk_cell BK219.out 1).trans rfl
     have hcz9_2 : w3.cell? ⟨gb219, 2, none⟩ = some (.slice A0_2 l0_2.length c0_2) := (blk_cell BK219.out 2).trans rfl
     have hcz9_3 : w3.cell? ⟨gb219, 3, none⟩ = some (.slice A0_3 l0_3.length c0_3) := (blk_cell BK219.out 3).trans rfl
     have hfz9_0 := blk_frozen BK219.out 0
     have hfz9_1 := blk_frozen BK219.out 1
     have hfz9_2 := blk_frozen BK219.out 2
     have hfz9_3 := blk_frozen BK219.out 3
     go_wp2
     repeat (go_quiet (fail); try go_wp2)
     go_meet
     case rel => exact ⟨_, (true), (by first | rfl | (simp; done) | (simp [*]; done)), H', ⟨by first | omega | exact Nat.le_refl _⟩, ⟨BL BK219.out⟩, ⟨by repeat (first | (with_reducible first | exact HB.out | apply below_alloc | apply pw_below_drewN | apply below_drew1 | refine below_set ?_ (Aside0.out (by assumption))) | exact HB.out)⟩⟩
    ·rw [if_neg c8] at H
     have c8b0 : decide (5 < (l0_2.length : Int)) = false := decide_eq_false c8
     have c8b1 : decide (5 < l0_2.length) = false := decide_eq_false (by omega)
     clear c8
     by_cases c10 : (l0_3.length : Int) = (l0_2.length : Int)
     ·rw [if_pos c10] at H
      have c10b0 : ((l0_3.length : Int) == (l0_2.length : Int)) = true := beq_iff_eq.mpr c10
      have c10b1 : ((l0_3.length : Int) != (l0_2.length : Int)) = false := bne_eq_false_iff_eq.mpr c10
      have c10b2 : (l0_3.length == l0_2.length) = true := by first | simpa using c10 | (simp at c10 ⊢; omega)
      clear c10
      have H' := Aside0.mk H
      clear H
      have hcz11_0 : w3.cell? ⟨gb219, 0, none⟩ = some (.int .i64 a0_0) := (blk_cell BK219.out 0).trans rfl
      have hcz11_1 : w3.cell? ⟨gb219, 1, none⟩ = some (.slice A0_1 l0_1.length c0_1) := (blk_cell BK219.out 1).trans rfl
      have hcz11_2 : w3.cell? ⟨gb219, 2, none⟩ = some (.slice A0_2 l0_2.length c0_2) := (blk_cell BK219.out 2).trans rfl
      have hcz11_3 : w3.cell? ⟨gb219, 3, none⟩ = some (.slice A0_3 l0_3.length c0_3) := (blk_cell BK219.out 3).trans rfl
      have hfz11_0 := blk_frozen BK219.out 0
      have hfz11_1 := blk_frozen BK219.out 1
      have hfz11_2 := blk_frozen BK219.out 2
      have hfz11_3 := blk_frozen BK219.out 3
      go_wp2
      repeat (go_quiet (fail); try go_wp2)
      go_meet
      case rel => exact ⟨_, (decide ((l0_1.length : Int) > 6)), (by first | rfl | (simp; done) | (simp [*]; done)), H', ⟨by first | omega | exact Nat.le_refl _⟩, ⟨BL BK219.out⟩, ⟨by repeat (first | (with_reducible first | exact HB.out | apply below_alloc | apply pw_below_drewN | apply below_drew1 | refine below_set ?_ (Aside0.out (by assumption))) | exact HB.out)⟩⟩
     ·rw [if_neg c10] at H
      have c10b0 : ((l0_3.length : Int) == (l0_2.length : Int)) = false := beq_eq_false_iff_ne.mpr c10
      have c10b1 : ((l0_3.length : Int) != (l0_2.length : Int)) = true := bne_iff_ne.mpr c10
      have c10b2 : (l0_3.length == l0_2.length) = false := by first | simpa using c10 | (simp at c10 ⊢; omega)
      have H' := Aside0.mk H
      clear H
      have hcz12_0 : w3.cell? ⟨gb219, 0, none⟩ = some (.int .i64 a0_0) := (blk_cell BK219.out 0).trans rfl
      have hcz12_1 : w3.cell? ⟨gb219, 1, none⟩ = some (.slice A0_1 l0_1.length c0_1) := (blk_cell BK219.out 1).trans rfl
      have hcz12_2 : w3.cell? ⟨gb219, 2, none⟩ = some (.slice A0_2 l0_2.length c0_2) := (blk_cell BK219.out 2).trans rfl
      have hcz12_3 : w3.cell? ⟨gb219, 3, none⟩ = some (.slice A0_3 l0_3.length c0_3) := (blk_cell BK219.out 3).trans rfl
      have hfz12_0 := blk_frozen BK219.out 0
      have hfz12_1 := blk_frozen BK219.out 1
      have hfz12_2 := blk_frozen BK219.out 2
      have hfz12_3 := blk_frozen BK219.out 3
      go_wp2
      repeat (go_quiet (fail); try go_wp2)
      go_meet
      case rel => exact ⟨_, (true), (by first | rfl | (simp; done) | (simp [*]; done)), H', ⟨by first | omega | exact Nat.le_refl _⟩, ⟨BL BK219.out⟩, ⟨by repeat (first | (with_reducible first | exact HB.out | apply below_alloc | apply pw_below_drewN | apply below_drew1 | refine below_set ?_ (Aside0.out (by assumption))) | exact HB.out)⟩⟩
 case rest =>
  clear HC2
  try clear c1
  try clear p2
  try clear c4
  try clear c4b0
  try clear c6
  try clear c6b0
  try clear c8
  try clear c8b0
  try clear c8b1
  try clear c10
  try clear c10b0
  try clear c10b1
  try clear c10b2
  try clear c12
  try clear hcz11_0
  try clear hcz11_1
  try clear hcz11_2
  try clear hcz11_3
  try clear hcz12_0
  try clear hcz12_1
  try clear hcz12_2
  try clear hcz12_3
  try clear hcz5_0
  try clear hcz5_1
  try clear hcz5_2
  try clear hcz5_3
  try clear hcz7_0
  try clear hcz7_1
  try clear hcz7_2
  try clear hcz7_3
  try clear hcz9_0
  try clear hcz9_1
  try clear hcz9_2
  try clear hcz9_3
  try clear hfz11_0
  try clear hfz11_1
  try clear hfz11_2
  try clear hfz11_3
  try clear hfz12_0
  try clear hfz12_1
  try clear hfz12_2
  try clear hfz12_3
  try clear hfz5_0
  try clear hfz5_1
  try clear hfz5_2
  try clear hfz5_3
  try clear hfz7_0
  try clear hfz7_1
  try clear hfz7_2
  try clear hfz7_3
  try clear hfz9_0
  try clear hfz9_1
  try clear hfz9_2
  try clear hfz9_3
  obtain ⟨kq, x33_1, rfl, HA, HJ1, BK219, HB⟩ := hcut
  cases kq with
  | zero => exact absurd HA.out (by simp [haywainref17_Right.j0])
  | succ kj1 =>
   have H := HA.out
   clear HA
   simp only [haywainref17_Right.j0] at H
   by_cases c13 : x33_1 = true
   ·subst c13
    rw [if_pos rfl] at H
    obtain rfl := Option.some.inj H
    go_wp2
    repeat (go_quiet (fail); try go_wp2)
    go_ret
    exact ⟨by first | rfl | (simp [errW_none, errW_some] <;> rfl) | (simp [*, errW_none, errW_some] <;> rfl), by repeat (first | (with_reducible first | exact HB.out | apply below_alloc | apply pw_below_drewN | apply below_drew1 | refine below_set ?_ (Aside0.out (by assumption))) | exact HB.out)⟩
   ·replace c13 := Bool.eq_false_iff.mpr c13
    subst c13
    rw [if_neg (show ¬ (false = true) by decide)] at H
    have H' := Aside0.mk H
    clear H
    go_wp2
    repeat (go_quiet (fail); try go_wp2)
    go_loopg [3] kj1 (fun kq v3 w' => ∃ (x3_2 : Int), v3 = .int .i64 x3_2 ∧ Aside0 (haywainref17_Right.l0 kq x3_2 a0_0 l0_1 l0_2 l0_3 = some r) ∧ Aside0 (kq ≤ kj1) ∧ Aside0 (w'.heap[gb219]? = some (.cells #[.int .i64 a0_0, (.slice A0_1 l0_1.length c0_1), (.slice A0_2 l0_2.length c0_2), (.slice A0_3 l0_3.length c0_3)] 28 (0, 0))) ∧ Aside0 (Below w.heap.size w w'))
    case atStart => exact ⟨(0), (by first | rfl | (simp; done) | (simp [*]; done)), H', ⟨Nat.le_refl _⟩, ⟨BL BK219.out⟩, ⟨by repeat (first | (with_reducible first | exact HB.out | apply below_alloc | apply pw_below_drewN | apply below_drew1 | refine below_set ?_ (Aside0.out (by assumption))) | exact HB.out)⟩⟩
    case round =>
     clear H'
     try clear c1
     try clear p2
     try clear c4
     try clear c4b0
     try clear c6
     try clear c6b0
     try clear c8
     try clear c8b0
     try clear c8b1
     try clear c10
     try clear c10b0
     try clear c10b1
     try clear c10b2
     try clear c12
     try clear c13
     try clear hcz11_0
     try clear hcz11_1
     try clear hcz11_2
     try clear hcz11_3
     try clear hcz12_0
     try clear hcz12_1
     try clear hcz12_2
     try clear hcz12_3
     try clear hcz5_0
     try clear hcz5_1
     try clear hcz5_2
     try clear hcz5_3
     try clear hcz7_0
     try clear hcz7_1
     try clear hcz7_2
     try clear hcz7_3
     try clear hcz9_0
     try clear hcz9_1
     try clear hcz9_2
     try clear hcz9_3
     try clear hfz11_0
     try clear hfz11_1
     try clear hfz11_2
     try clear hfz11_3
     try clear hfz12_0
     try clear hfz12_1
     try clear hfz12_2
     try clear hfz12_3
     try clear hfz5_0
     try clear hfz5_1
     try clear hfz5_2
     try clear hfz5_3
     try clear hfz7_0
     try clear hfz7_1
     try clear hfz7_2
     try clear hfz7_3
     try clear hfz9_0
     try clear hfz9_1
     try clear hfz9_2
     try clear hfz9_3
     try clear p2
     obtain ⟨x3_2, rfl, HA, HK2, BK219, HB⟩ := hrel
     cases gk with
     | zero => exact absurd HA.out (by simp [haywainref17_Right.l0])
     | succ k2 =>
      have H := HA.out
      clear HA
      simp only [haywainref17_Right.l0] at H
      by_cases c14 : x3_2 < (l0_2.length : Int)
      ·rw [if_pos c14] at H
       have c14b0 : decide (x3_2 < (l0_2.length : Int)) = true := decide_eq_true c14
       clear c14
       by_cases c15 : 0 ≤ x3_2
       ·rw [if_pos c15] at H
        have c15b0 : decide (0 ≤ x3_2) = true := decide_eq_true c15
        clear c15
        by_cases c16 : (rd l0_2 x3_2) < 1
        ·rw [if_pos c16] at H
         have c16b0 : decide ((rd l0_2 x3_2) < 1) = true := decide_eq_true c16
         clear c16
         obtain rfl := Option.some.inj H
         have hcz17_0 : wr.cell? ⟨gb219, 0, none⟩ = some (.int .i64 a0_0) := (blk_cell BK219.out 0).trans rfl
         have hcz17_1 : wr.cell? ⟨gb219, 1, none⟩ = some (.slice A0_1 l0_1.length c0_1) := (blk_cell BK219.out 1).trans rfl
         have hcz17_2 : wr.cell? ⟨gb219, 2, none⟩ = some (.slice A0_2 l0_2.length c0_2) := (blk_cell BK219.out 2).trans rfl
         have hcz17_3 : wr.cell? ⟨gb219, 3, none⟩ = some (.slice A0_3 l0_3.length c0_3) := (blk_cell BK219.out 3).trans rfl
         have hfz17_0 := blk_frozen BK219.out 0
         have hfz17_1 := blk_frozen BK219.out 1
         have hfz17_2 := blk_frozen BK219.out 2
         have hfz17_3 := blk_frozen BK219.out 3
         have p220 : 0 ≤ (x3_2 : Int) := of_decide_eq_true (by first | (with_reducible assumption) | assumption)
         have q220 : x3_2 < (l0_2.length : Int) := of_decide_eq_true (by first | (with_reducible assumption) | assumption)
         obtain ⟨ad220, e220, hx220_0⟩ := Kd.at_int HR0_2.out x3_2 p220 q220
         cases e220
         replace hx220_0 := (HB.out.cell (World.block_lt_of_cell? w _ hx220_0)).trans hx220_0
         replace p220 := eq_true p220
         replace q220 := eq_true q220
         go_wp2
         repeat (go_quiet (fail); try go_wp2)
         go_ret
         exact ⟨by first | rfl | (simp [errW_none, errW_some] <;> rfl) | (simp [*, errW_none, errW_some] <;> rfl), by repeat (first | (with_reducible first | exact HB.out | apply below_alloc | apply pw_below_drewN | apply below_drew1 | refine below_set ?_ (Aside0.out (by assumption))) | exact HB.out)⟩
        ·rw [if_neg c16] at H
         have c16b0 : decide ((rd l0_2 x3_2) < 1) = false := decide_eq_false c16
         clear c16
         by_cases c18 : (rd l0_2 x3_2) > 99
         ·rw [if_pos c18] at H
          have c18b0 : decide (99 < (rd l0_2 x3_2)) = true := decide_eq_true c18
          clear c18
          obtain rfl := Option.some.inj H
          have hcz19_0 : wr.cell? ⟨gb219, 0, none⟩ = some (.int .i64 a0_0) := (blk_cell BK219.out 0).trans rfl
          have hcz19_1 : wr.cell? ⟨gb219, 1, none⟩ = some (.slice A0_1 l0_1.length c0_1) := (blk_cell BK219.out 1).trans rfl
          have hcz19_2 : wr.cell? ⟨gb219, 2, none⟩ = some (.slice A0_2 l0_2.length c0_2) := (blk_cell BK219.out 2).trans rfl
          have hcz19_3 : wr.cell? ⟨gb219, 3, none⟩ = some (.slice A0_3 l0_3.length c0_3) := (blk_cell BK219.out 3).trans rfl
          have hfz19_0 := blk_frozen BK219.out 0
          have hfz19_1 := blk_frozen BK219.out 1
          have hfz19_2 := blk_frozen BK219.out 2
          have hfz19_3 := blk_frozen BK219.out 3
          have p220 : 0 ≤ (x3_2 : Int) := of_decide_eq_true (by first | (with_reducible assumption) | assumption)
          have q220 : x3_2 < (l0_2.length : Int) := of_decide_eq_true (by first | (with_reducible assumption) | assumption)
          obtain ⟨ad220, e220, hx220_0⟩ := Kd.at_int HR0_2.out x3_2 p220 q220
          cases e220
          replace hx220_0 := (HB.out.cell (World.block_lt_of_cell? w _ hx220_0)).trans hx220_0
          replace p220 := eq_true p220
          replace q220 := eq_true q220
          have p221 : 0 ≤ (x3_2 : Int) := of_decide_eq_true (by first | (with_reducible assumption) | assumption)
          have q221 : x3_2 < (l0_2.length : Int) := of_decide_eq_true (by first | (with_reducible assumption) | assumption)
          obtain ⟨ad221, e221, hx221_0⟩ := Kd.at_int HR0_2.out x3_2 p221 q221
          obtain rfl : ad220 = ad221 := (by injection e221)
          replace hx221_0 := (HB.out.cell (World.block_lt_of_cell? w _ hx221_0)).trans hx221_0
          replace p221 := eq_true p221
          replace q221 := eq_true q221
          go_wp2
          repeat (go_quiet (fail); try go_wp2)
          go_ret
          exact ⟨by first | rfl | (simp [errW_none, errW_some] <;> rfl) | (simp [*, errW_none, errW_some] <;> rfl), by repeat (first | (with_reducible first | exact HB.out | apply below_alloc | apply pw_below_drewN | apply below_drew1 | refine below_set ?_ (Aside0.out (by assumption))) | exact HB.out)⟩
         ·rw [if_neg c18] at H
          have c18b0 : decide (99 < (rd l0_2 x3_2)) = false := decide_eq_false c18
          clear c18
          by_cases c20 : x3_2 < (l0_3.length : Int)
          ·rw [if_pos c20] at H
           have c20b0 : decide (x3_2 < (l0_3.length : Int)) = true := decide_eq_true c20
           clear c20
           by_cases c21 : (rd l0_3 x3_2) < 1
           ·rw [if_pos c21] at H
            have c21b0 : decide ((rd l0_3 x3_2) < 1) = true := decide_eq_true c21
            clear c21
            obtain rfl := Option.some.inj H
            have hcz22_0 : wr.cell? ⟨gb219, 0, none⟩ = some (.int .i64 a0_0) := (blk_cell BK219.out 0).trans rfl
            have hcz22_1 : wr.cell? ⟨gb219, 1, none⟩ = some (.slice A0_1 l0_1.length c0_1) := (blk_cell BK219.out 1).trans rfl
            have hcz22_2 : wr.cell? ⟨gb219, 2, none⟩ = some (.slice A0_2 l0_2.length c0_2) := (blk_cell BK219.out 2).trans rfl
            have hcz22_3 : wr.cell? ⟨gb219, 3, none⟩ = some (.slice A0_3 l0_3.length c0_3) := (blk_cell BK219.out 3).trans rfl
            have hfz22_0 := blk_frozen BK219.out 0
            have hfz22_1 := blk_frozen BK219.out 1
            have hfz22_2 := blk_frozen BK219.out 2
            have hfz22_3 := blk_frozen BK219.out 3
            have p220 : 0 ≤ (x3_2 : Int) := of_decide_eq_true (by first | (with_reducible assumption) | assumption)
            have q220 : x3_2 < (l0_2.length : Int) := of_decide_eq_true (by first | (with_reducible assumption) | assumption)
            obtain ⟨ad220, e220, hx220_0⟩ := Kd.at_int HR0_2.out x3_2 p220 q220
            cases e220
            replace hx220_0 := (HB.out.cell (World.block_lt_of_cell? w _ hx220_0)).trans hx220_0
            replace p220 := eq_true p220
            replace q220 := eq_true q220
            have p221 : 0 ≤ (x3_2 : Int) := of_decide_eq_true (by first | (with_reducible assumption) | assumption)
            have q221 : x3_2 < (l0_2.length : Int) := of_decide_eq_true (by first | (with_reducible assumption) | assumption)
            obtain ⟨ad221, e221, hx221_0⟩ := Kd.at_int HR0_2.out x3_2 p221 q221
            obtain rfl : ad220 = ad221 := (by injection e221)
            replace hx221_0 := (HB.out.cell (World.block_lt_of_cell? w _ hx221_0)).trans hx221_0
            replace p221 := eq_true p221
            replace q221 := eq_true q221
            have p222 : 0 ≤ (x3_2 : Int) := of_decide_eq_true (by first | (with_reducible assumption) | assumption)
            have q222 : x3_2 < (l0_3.length : Int) := of_decide_eq_true (by first | (with_reducible assumption) | assumption)
            obtain ⟨ad222, e222, hx222_0⟩ := Kd.at_int HR0_3.out x3_2 p222 q222
            cases e222
            replace hx222_0 := (HB.out.cell (World.block_lt_of_cell? w _ hx222_0)).trans hx222_0
            replace p222 := eq_true p222
            replace q222 := eq_true q222
            go_wp2
            repeat (go_quiet (fail); try go_wp2)
            go_ret
            exact ⟨by first | rfl | (simp [errW_none, errW_some] <;> rfl) | (simp [*, errW_none, errW_some] <;> rfl), by repeat (first | (with_reducible first | exact HB.out | apply below_alloc | apply pw_below_drewN | apply below_drew1 | refine below_set ?_ (Aside0.out (by assumption))) | exact HB.out)⟩
           ·rw [if_neg c21] at H
            have c21b0 : decide ((rd l0_3 x3_2) < 1) = false := decide_eq_false c21
            clear c21
            by_cases c23 : (rd l0_3 x3_2) > 1099511627776
            ·rw [if_pos c23] at H
             have c23b0 : decide (1099511627776 < (rd l0_3 x3_2)) = true := decide_eq_true c23
             clear c23
             obtain rfl := Option.some.inj H
             have hcz24_0 : wr.cell? ⟨gb219, 0, none⟩ = some (.int .i64 a0_0) := (blk_cell BK219.out 0).trans rfl
             have hcz24_1 : wr.cell? ⟨gb219, 1, none⟩ = some (.slice A0_1 l0_1.length c0_1) := (blk_cell BK219.out 1).trans rfl
             have hcz24_2 : wr.cell? ⟨gb219, 2, none⟩ = some (.slice A0_2 l0_2.length c0_2) := (blk_cell BK219.out 2).trans rfl
             have hcz24_3 : wr.cell? ⟨gb219, 3, none⟩ = some (.slice A0_3 l0_3.length c0_3) := (blk_cell BK219.out 3).trans rfl
             have hfz24_0 := blk_frozen BK219.out 0
             have hfz24_1 := blk_frozen BK219.out 1
             have hfz24_2 := blk_frozen BK219.out 2
             have hfz24_3 := blk_frozen BK219.out 3
             have p220 : 0 ≤ (x3_2 : Int) := of_decide_eq_true (by first | (with_reducible assumption) | assumption)
             have q220 : x3_2 < (l0_2.length : Int) := of_decide_eq_true (by first | (with_reducible assumption) | assumption)
             obtain ⟨ad220, e220, hx220_0⟩ := Kd.at_int HR0_2.out x3_2 p220 q220
             cases e220
             replace hx220_0 := (HB.out.cell (World.block_lt_of_cell? w _ hx220_0)).trans hx220_0
             replace p220 := eq_true p220
             replace q220 := eq_true q220
             have p221 : 0 ≤ (x3_2 : Int) := of_decide_eq_true (by first | (with_reducible assumption) | assumption)
             have q221 : x3_2 < (l0_2.length : Int) := of_decide_eq_true (by first | (with_reducible assumption) | assumption)
             obtain ⟨ad221, e221, hx221_0⟩ := Kd.at_int HR0_2.out x3_2 p221 q221
             obtain rfl : ad220 = ad221 := (by injection e221)
             replace hx221_0 := (HB.out.cell (World.block_lt_of_cell? w _ hx221_0)).trans hx221_0
             replace p221 := eq_true p221
             replace q221 := eq_true q221
             have p222 : 0 ≤ (x3_2 : Int) := of_decide_eq_true (by first | (with_reducible assumption) | assumption)
             have q222 : x3_2 < (l0_3.length : Int) := of_decide_eq_true (by first | (with_reducible assumption) | assumption)
             obtain ⟨ad222, e222, hx222_0⟩ := Kd.at_int HR0_3.out x3_2 p222 q222
             cases e222
             replace hx222_0 := (HB.out.cell (World.block_lt_of_cell? w _ hx222_0)).trans hx222_0
             replace p222 := eq_true p222
             replace q222 := eq_true q222
             have p223 : 0 ≤ (x3_2 : Int) := of_decide_eq_true (by first | (with_reducible assumption) | assumption)
             have q223 : x3_2 < (l0_3.length : Int) := of_decide_eq_true (by first | (with_reducible assumption) | assumption)
             obtain ⟨ad223, e223, hx223_0⟩ := Kd.at_int HR0_3.out x3_2 p223 q223
             obtain rfl : ad222 = ad223 := (by injection e223)
             replace hx223_0 := (HB.out.cell (World.block_lt_of_cell? w _ hx223_0)).trans hx223_0
             replace p223 := eq_true p223
             replace q223 := eq_true q223
             go_wp2
             repeat (go_quiet (fail); try go_wp2)
             go_ret
             exact ⟨by first | rfl | (simp [errW_none, errW_some] <;> rfl) | (simp [*, errW_none, errW_some] <;> rfl), by repeat (first | (with_reducible first | exact HB.out | apply below_alloc | apply pw_below_drewN | apply below_drew1 | refine below_set ?_ (Aside0.out (by assumption))) | exact HB.out)⟩
            ·rw [if_neg c23] at H
             have c23b0 : decide (1099511627776 < (rd l0_3 x3_2)) = false := decide_eq_false c23
             clear c23
             by_cases c25 : x3_2 > 0
             ·rw [if_pos c25] at H
              have c25b0 : decide (0 < x3_2) = true := decide_eq_true c25
              clear c25
              obtain ⟨ji26, hji26⟩ : ∃ j_ : Int, (wrap64 (x3_2 - 1)) = j_ := ⟨_, rfl⟩
              replace H : (if 0 ≤ (ji26) then (if (ji26) < (l0_2.length : Int) then (if (rd l0_2 (ji26)) ≥ (rd l0_2 x3_2) then (some false) else (haywainref17_Right.l0 k2 (wrap64 (x3_2 + 1)) a0_0 l0_1 l0_2 l0_3)) else (none)) else (none)) = some r := by first | (rw [hji26] at H; exact H) | (simp only [hji26] at H ⊢; exact H)
              have hji26w : (IntKind.i64.wrap (x3_2 - 1)) = ji26 := (i64_w _).trans hji26
              by_cases c27 : 0 ≤ (ji26)
              ·rw [if_pos c27] at H
               have c27b0 : decide (0 ≤ (ji26)) = true := decide_eq_true c27
               clear c27
               by_cases c28 : (ji26) < (l0_2.length : Int)
               ·rw [if_pos c28] at H
                have c28b0 : decide ((ji26) < (l0_2.length : Int)) = true := decide_eq_true c28
                clear c28
                by_cases c29 : (rd l0_2 (ji26)) ≥ (rd l0_2 x3_2)
                ·rw [if_pos c29] at H
                 have c29b0 : decide ((rd l0_2 x3_2) ≤ (rd l0_2 (ji26))) = true := decide_eq_true c29
                 clear c29
                 obtain rfl := Option.some.inj H
                 have hcz30_0 : wr.cell? ⟨gb219, 0, none⟩ = some (.int .i64 a0_0) := (blk_cell BK219.out 0).trans rfl
                 have hcz30_1 : wr.cell? ⟨gb219, 1, none⟩ = some (.slice A0_1 l0_1.length c0_1) := (blk_cell BK219.out 1).trans rfl
                 have hcz30_2 : wr.cell? ⟨gb219, 2, none⟩ = some (.slice A0_2 l0_2.length c0_2) := (blk_cell BK219.out 2).trans rfl
                 have hcz30_3 : wr.cell? ⟨gb219, 3, none⟩ = some (.slice A0_3 l0_3.length c0_3) := (blk_cell BK219.out 3).trans rfl
                 have hfz30_0 := blk_frozen BK219.out 0
                 have hfz30_1 := blk_frozen BK219.out 1
                 have hfz30_2 := blk_frozen BK219.out 2
                 have hfz30_3 := blk_frozen BK219.out 3
                 have p220 : 0 ≤ (x3_2 : Int) := of_decide_eq_true (by first | (with_reducible assumption) | assumption)
                 have q220 : x3_2 < (l0_2.length : Int) := of_decide_eq_true (by first | (with_reducible assumption) | assumption)
                 obtain ⟨ad220, e220, hx220_0⟩ := Kd.at_int HR0_2.out x3_2 p220 q220
                 cases e220
                 replace hx220_0 := (HB.out.cell (World.block_lt_of_cell? w _ hx220_0)).trans hx220_0
                 replace p220 := eq_true p220
                 replace q220 := eq_true q220
                 have p221 : 0 ≤ (x3_2 : Int) := of_decide_eq_true (by first | (with_reducible assumption) | assumption)
                 have q221 : x3_2 < (l0_2.length : Int) := of_decide_eq_true (by first | (with_reducible assumption) | assumption)
                 obtain ⟨ad221, e221, hx221_0⟩ := Kd.at_int HR0_2.out x3_2 p221 q221
                 obtain rfl : ad220 = ad221 := (by injection e221)
                 replace hx221_0 := (HB.out.cell (World.block_lt_of_cell? w _ hx221_0)).trans hx221_0
                 replace p221 := eq_true p221
                 replace q221 := eq_true q221
                 have p222 : 0 ≤ (x3_2 : Int) := of_decide_eq_true (by first | (with_reducible assumption) | assumption)
                 have q222 : x3_2 < (l0_3.length : Int) := of_decide_eq_true (by first | (with_reducible assumption) | assumption)
                 obtain ⟨ad222, e222, hx222_0⟩ := Kd.at_int HR0_3.out x3_2 p222 q222
                 cases e222
                 replace hx222_0 := (HB.out.cell (World.block_lt_of_cell? w _ hx222_0)).trans hx222_0
                 replace p222 := eq_true p222
                 replace q222 := eq_true q222
                 have p223 : 0 ≤ (x3_2 : Int) := of_decide_eq_true (by first | (with_reducible assumption) | assumption)
                 have q223 : x3_2 < (l0_3.length : Int) := of_decide_eq_true (by first | (with_reducible assumption) | assumption)
                 obtain ⟨ad223, e223, hx223_0⟩ := Kd.at_int HR0_3.out x3_2 p223 q223
                 obtain rfl : ad222 = ad223 := (by injection e223)
                 replace hx223_0 := (HB.out.cell (World.block_lt_of_cell? w _ hx223_0)).trans hx223_0
                 replace p223 := eq_true p223
                 replace q223 := eq_true q223
                 have p224 : 0 ≤ ((ji26) : Int) := of_decide_eq_true (by first | (with_reducible assumption) | assumption)
                 have q224 : (ji26) < (l0_2.length : Int) := of_decide_eq_true (by first | (with_reducible assumption) | assumption)
                 obtain ⟨ad224, e224, hx224_0⟩ := Kd.at_int HR0_2.out (ji26) p224 q224
                 obtain rfl : ad220 = ad224 := (by injection e224)
                 replace hx224_0 := (HB.out.cell (World.block_lt_of_cell? w _ hx224_0)).trans hx224_0
                 replace p224 := eq_true p224
                 replace q224 := eq_true q224
                 have p225 : 0 ≤ (x3_2 : Int) := of_decide_eq_true (by first | (with_reducible assumption) | assumption)
                 have q225 : x3_2 < (l0_2.length : Int) := of_decide_eq_true (by first | (with_reducible assumption) | assumption)
                 obtain ⟨ad225, e225, hx225_0⟩ := Kd.at_int HR0_2.out x3_2 p225 q225
                 obtain rfl : ad220 = ad225 := (by injection e225)
                 replace hx225_0 := (HB.out.cell (World.block_lt_of_cell? w _ hx225_0)).trans hx225_0
                 replace p225 := eq_true p225
                 replace q225 := eq_true q225
                 go_wp2
                 repeat (go_quiet (fail); try go_wp2)
                 go_ret
                 exact ⟨by first | rfl | (simp [errW_none, errW_some] <;> rfl) | (simp only [← hji26]; first | rfl | (simp [errW_none, errW_some] <;> rfl)) | (simp [*, errW_none, errW_some] <;> rfl), by repeat (first | (with_reducible first | exact HB.out | apply below_alloc | apply pw_below_drewN | apply below_drew1 | refine below_set ?_ (Aside0.out (by assumption))) | exact HB.out)⟩
                ·rw [if_neg c29] at H
                 have c29b0 : decide ((rd l0_2 x3_2) ≤ (rd l0_2 (ji26))) = false := decide_eq_false c29
                 clear c29
                 have H' := Aside0.mk H
                 clear H
                 have hcz31_0 : wr.cell? ⟨gb219, 0, none⟩ = some (.int .i64 a0_0) := (blk_cell BK219.out 0).trans rfl
                 have hcz31_1 : wr.cell? ⟨gb219, 1, none⟩ = some (.slice A0_1 l0_1.length c0_1) := (blk_cell BK219.out 1).trans rfl
                 have hcz31_2 : wr.cell? ⟨gb219, 2, none⟩ = some (.slice A0_2 l0_2.length c0_2) := (blk_cell BK219.out 2).trans rfl
                 have hcz31_3 : wr.cell? ⟨gb219, 3, none⟩ = some (.slice A0_3 l0_3.length c0_3) := (blk_cell BK219.out 3).trans rfl
                 have hfz31_0 := blk_frozen BK219.out 0
                 have hfz31_1 := blk_frozen BK219.out 1
                 have hfz31_2 := blk_frozen BK219.out 2
                 have hfz31_3 := blk_frozen BK219.out 3
                 have p220 : 0 ≤ (x3_2 : Int) := of_decide_eq_true (by first | (with_reducible assumption) | assumption)
                 have q220 : x3_2 < (l0_2.length : Int) := of_decide_eq_true (by first | (with_reducible assumption) | assumption)
                 obtain ⟨ad220, e220, hx220_0⟩ := Kd.at_int HR0_2.out x3_2 p220 q220
                 cases e220
                 replace hx220_0 := (HB.out.cell (World.block_lt_of_cell? w _ hx220_0)).trans hx220_0
                 replace p220 := eq_true p220
                 replace q220 := eq_true q220
                 have p221 : 0 ≤ (x3_2 : Int) := of_decide_eq_true (by first | (with_reducible assumption) | assumption)
                 have q221 : x3_2 < (l0_2.length : Int) := of_decide_eq_true (by first | (with_reducible assumption) | assumption)
                 obtain ⟨ad221, e221, hx221_0⟩ := Kd.at_int HR0_2.out x3_2 p221 q221
                 obtain rfl : ad220 = ad221 := (by injection e221)
                 replace hx221_0 := (HB.out.cell (World.block_lt_of_cell? w _ hx221_0)).trans hx221_0
                 replace p221 := eq_true p221
                 replace q221 := eq_true q221
                 have p222 : 0 ≤ (x3_2 : Int) := of_decide_eq_true (by first | (with_reducible assumption) | assumption)
                 have q222 : x3_2 < (l0_3.length : Int) := of_decide_eq_true (by first | (with_reducible assumption) | assumption)
                 obtain ⟨ad222, e222, hx222_0⟩ := Kd.at_int HR0_3.out x3_2 p222 q222
                 cases e222
                 replace hx222_0 := (HB.out.cell (World.block_lt_of_cell? w _ hx222_0)).trans hx222_0
                 replace p222 := eq_true p222
                 replace q222 := eq_true q222
                 have p223 : 0 ≤ (x3_2 : Int) := of_decide_eq_true (by first | (with_reducible assumption) | assumption)
                 have q223 : x3_2 < (l0_3.length : Int) := of_decide_eq_true (by first | (with_reducible assumption) | assumption)
                 obtain ⟨ad223, e223, hx223_0⟩ := Kd.at_int HR0_3.out x3_2 p223 q223
                 obtain rfl : ad222 = ad223 := (by injection e223)
                 replace hx223_0 := (HB.out.cell (World.block_lt_of_cell? w _ hx223_0)).trans hx223_0
                 replace p223 := eq_true p223
                 replace q223 := eq_true q223
                 have p224 : 0 ≤ ((ji26) : Int) := of_decide_eq_true (by first | (with_reducible assumption) | assumption)
                 have q224 : (ji26) < (l0_2.length : Int) := of_decide_eq_true (by first | (with_reducible assumption) | assumption)
                 obtain ⟨ad224, e224, hx224_0⟩ := Kd.at_int HR0_2.out (ji26) p224 q224
                 obtain rfl : ad220 = ad224 := (by injection e224)
                 replace hx224_0 := (HB.out.cell (World.block_lt_of_cell? w _ hx224_0)).trans hx224_0
                 replace p224 := eq_true p224
                 replace q224 := eq_true q224
                 have p225 : 0 ≤ (x3_2 : Int) := of_decide_eq_true (by first | (with_reducible assumption) | assumption)
                 have q225 : x3_2 < (l0_2.length : Int) := of_decide_eq_true (by first | (with_reducible assumption) | assumption)
                 obtain ⟨ad225, e225, hx225_0⟩ := Kd.at_int HR0_2.out x3_2 p225 q225
                 obtain rfl : ad220 = ad225 := (by injection e225)
                 replace hx225_0 := (HB.out.cell (World.block_lt_of_cell? w _ hx225_0)).trans hx225_0
                 replace p225 := eq_true p225
                 replace q225 := eq_true q225
                 go_wp2
                 repeat (go_quiet (fail); try go_wp2)
                 go_roundg k2
                 case measure => have := HJ1.out; have := HK2.out; omega
                 case rel => exact ⟨(wrap64 (x3_2 + 1)), (by first | rfl | (simp; done) | (simp [*]; done)), H', ⟨by have := HJ1.out; have := HK2.out; omega⟩, ⟨BL BK219.out⟩, ⟨by repeat (first | (with_reducible first | exact HB.out | apply below_alloc | apply pw_below_drewN | apply below_drew1 | refine below_set ?_ (Aside0.out (by assumption))) | exact HB.out)⟩⟩
               ·rw [if_neg c28] at H
                exact absurd H (by simp)
              ·rw [if_neg c27] at H
               exact absurd H (by simp)
             ·rw [if_neg c25] at H
              have c25b0 : decide (0 < x3_2) = false := decide_eq_false c25
              clear c25
              have H' := Aside0.mk H
              clear H
              have hcz32_0 : wr.cell? ⟨gb219, 0, none⟩ = some (.int .i64 a0_0) := (blk_cell BK219.out 0).trans rfl
              have hcz32_1 : wr.cell? ⟨gb219, 1, none⟩ = some (.slice A0_1 l0_1.length c0_1) := (blk_cell BK219.out 1).trans rfl
              have hcz32_2 : wr.cell? ⟨gb219, 2, none⟩ = some (.slice A0_2 l0_2.length c0_2) := (blk_cell BK219.out 2).trans rfl
              have hcz32_3 : wr.cell? ⟨gb219, 3, none⟩ = some (.slice A0_3 l0_3.length c0_3) := (blk_cell BK219.out 3).trans rfl
              have hfz32_0 := blk_frozen BK219.out 0
              have hfz32_1 := blk_frozen BK219.out 1
              have hfz32_2 := blk_frozen BK219.out 2
              have hfz32_3 := blk_frozen BK219.out 3
              have p220 : 0 ≤ (x3_2 : Int) := of_decide_eq_true (by first | (with_reducible assumption) | assumption)
              have q220 : x3_2 < (l0_2.length : Int) := of_decide_eq_true (by first | (with_reducible assumption) | assumption)
              obtain ⟨ad220, e220, hx220_0⟩ := Kd.at_int HR0_2.out x3_2 p220 q220
              cases e220
              replace hx220_0 := (HB.out.cell (World.block_lt_of_cell? w _ hx220_0)).trans hx220_0
              replace p220 := eq_true p220
              replace q220 := eq_true q220
              have p221 : 0 ≤ (x3_2 : Int) := of_decide_eq_true (by first | (with_reducible assumption) | assumption)
              have q221 : x3_2 < (l0_2.length : Int) := of_decide_eq_true (by first | (with_reducible assumption) | assumption)
              obtain ⟨ad221, e221, hx221_0⟩ := Kd.at_int HR0_2.out x3_2 p221 q221
              obtain rfl : ad220 = ad221 := (by injection e221)
              replace hx221_0 := (HB.out.cell (World.block_lt_of_cell? w _ hx221_0)).trans hx221_0
              replace p221 := eq_true p221
              replace q221 := eq_true q221
              have p222 : 0 ≤ (x3_2 : Int) := of_decide_eq_true (by first | (with_reducible assumption) | assumption)
              have q222 : x3_2 < (l0_3.length : Int) := of_decide_eq_true (by first | (with_reducible assumption) | assumption)
              obtain ⟨ad222, e222, hx222_0⟩ := Kd.at_int HR0_3.out x3_2 p222 q222
              cases e222
              replace hx222_0 := (HB.out.cell (World.block_lt_of_cell? w _ hx222_0)).trans hx222_0
              replace p222 := eq_true p222
              replace q222 := eq_true q222
              have p223 : 0 ≤ (x3_2 : Int) := of_decide_eq_true (by first | (with_reducible assumption) | assumption)
              have q223 : x3_2 < (l0_3.length : Int) := of_decide_eq_true (by first | (with_reducible assumption) | assumption)
              obtain ⟨ad223, e223, hx223_0⟩ := Kd.at_int HR0_3.out x3_2 p223 q223
              obtain rfl : ad222 = ad223 := (by injection e223)
              replace hx223_0 := (HB.out.cell (World.block_lt_of_cell? w _ hx223_0)).trans hx223_0
              replace p223 := eq_true p223
              replace q223 := eq_true q223
              go_wp2
              repeat (go_quiet (fail); try go_wp2)
              go_roundg k2
              case measure => have := HJ1.out; have := HK2.out; omega
              case rel => exact ⟨(wrap64 (x3_2 + 1)), (by first | rfl | (simp; done) | (simp [*]; done)), H', ⟨by have := HJ1.out; have := HK2.out; omega⟩, ⟨BL BK219.out⟩, ⟨by repeat (first | (with_reducible first | exact HB.out | apply below_alloc | apply pw_below_drewN | apply below_drew1 | refine below_set ?_ (Aside0.out (by assumption))) | exact HB.out)⟩⟩
          ·rw [if_neg c20] at H
           exact absurd H (by simp)
       ·rw [if_neg c15] at H
        exact absurd H (by simp)
      ·rw [if_neg c14] at H
       have c14b0 : decide (x3_2 < (l0_2.length : Int)) = false := decide_eq_false c14
       clear c14
       have H' := Aside0.mk H
       clear H
       have hcz33_0 : wr.cell? ⟨gb219, 0, none⟩ = some (.int .i64 a0_0) := (blk_cell BK219.out 0).trans rfl
       have hcz33_1 : wr.cell? ⟨gb219, 1, none⟩ = some (.slice A0_1 l0_1.length c0_1) := (blk_cell BK219.out 1).trans rfl
       have hcz33_2 : wr.cell? ⟨gb219, 2, none⟩ = some (.slice A0_2 l0_2.length c0_2) := (blk_cell BK219.out 2).trans rfl
       have hcz33_3 : wr.cell? ⟨gb219, 3, none⟩ = some (.slice A0_3 l0_3.length c0_3) := (blk_cell BK219.out 3).trans rfl
       have hfz33_0 := blk_frozen BK219.out 0
       have hfz33_1 := blk_frozen BK219.out 1
       have hfz33_2 := blk_frozen BK219.out 2
       have hfz33_3 := blk_frozen BK219.out 3
       go_wp2
       repeat (go_quiet (fail); try go_wp2)
       go_loopg [4] k2 (fun kq v4 w' => ∃ (x4_3 : Int), v4 = .int .i64 x4_3 ∧ Aside0 (haywainref17_Right.l1 kq x4_3 a0_0 l0_1 l0_2 l0_3 = some r) ∧ Aside0 (kq ≤ k2) ∧ Aside0 (w'.heap[gb219]? = some (.cells #[.int .i64 a0_0, (.slice A0_1 l0_1.length c0_1), (.slice A0_2 l0_2.length c0_2), (.slice A0_3 l0_3.length c0_3)] 28 (0, 0))) ∧ Aside0 (Below w.heap.size w w'))
       case atStart => exact ⟨(0), (by first | rfl | (simp; done) | (simp [*]; done)), H', ⟨Nat.le_refl _⟩, ⟨BL BK219.out⟩, ⟨by repeat (first | (with_reducible first | exact HB.out | apply below_alloc | apply pw_below_drewN | apply below_drew1 | refine below_set ?_ (Aside0.out (by assumption))) | exact HB.out)⟩⟩
       case round =>
        clear H'
        try clear c1
        try clear c2
        try clear p2
        try clear q2
        try clear hx2
        try clear c4
        try clear c4b0
        try clear c6
        try clear c6b0
        try clear p6
        try clear c8
        try clear c8b0
        try clear c8b1
        try clear c10
        try clear c10b0
        try clear c10b1
        try clear c10b2
        try clear c12
        try clear c13
        try clear c14
        try clear c14b0
        try clear c15
        try clear c15b0
        try clear c16
        try clear c16b0
        try clear c18
        try clear c18b0
        try clear c20
        try clear c20b0
        try clear c21
        try clear c21b0
        try clear p22
        try clear q22
        try clear hx22
        try clear c23
        try clear c23b0
        try clear c25
        try clear c25b0
        try clear c27
        try clear c27b0
        try clear c28
        try clear c28b0
        try clear c29
        try clear c29b0
        try clear hcz11_0
        try clear hcz11_1
        try clear hcz11_2
        try clear hcz11_3
        try clear hcz12_0
        try clear hcz12_1
        try clear hcz12_2
        try clear hcz12_3
        try clear hcz17_0
        try clear hcz17_1
        try clear hcz17_2
        try clear hcz17_3
        try clear hcz19_0
        try clear hcz19_1
        try clear hcz19_2
        try clear hcz19_3
        try clear hcz22_0
        try clear hcz22_1
        try clear hcz22_2
        try clear hcz22_3
        try clear hcz24_0
        try clear hcz24_1
        try clear hcz24_2
        try clear hcz24_3
        try clear hcz30_0
        try clear hcz30_1
        try clear hcz30_2
        try clear hcz30_3
        try clear hcz31_0
        try clear hcz31_1
        try clear hcz31_2
        try clear hcz31_3
        try clear hcz32_0
        try clear hcz32_1
        try clear hcz32_2
        try clear hcz32_3
        try clear hcz33_0
        try clear hcz33_1
        try clear hcz33_2
        try clear hcz33_3
        try clear hcz5_0
        try clear hcz5_1
        try clear hcz5_2
        try clear hcz5_3
        try clear hcz7_0
        try clear hcz7_1
        try clear hcz7_2
        try clear hcz7_3
        try clear hcz9_0
        try clear hcz9_1
        try clear hcz9_2
        try clear hcz9_3
        try clear hfz11_0
        try clear hfz11_1
        try clear hfz11_2
        try clear hfz11_3
        try clear hfz12_0
        try clear hfz12_1
        try clear hfz12_2
        try clear hfz12_3
        try clear hfz17_0
        try clear hfz17_1
        try clear hfz17_2
        try clear hfz17_3
        try clear hfz19_0
        try clear hfz19_1
        try clear hfz19_2
        try clear hfz19_3
        try clear hfz22_0
        try clear hfz22_1
        try clear hfz22_2
        try clear hfz22_3
        try clear hfz24_0
        try clear hfz24_1
        try clear hfz24_2
        try clear hfz24_3
        try clear hfz30_0
        try clear hfz30_1
        try clear hfz30_2
        try clear hfz30_3
        try clear hfz31_0
        try clear hfz31_1
        try clear hfz31_2
        try clear hfz31_3
        try clear hfz32_0
        try clear hfz32_1
        try clear hfz32_2
        try clear hfz32_3
        try clear hfz33_0
        try clear hfz33_1
        try clear hfz33_2
        try clear hfz33_3
        try clear hfz5_0
        try clear hfz5_1
        try clear hfz5_2
        try clear hfz5_3
        try clear hfz7_0
        try clear hfz7_1
        try clear hfz7_2
        try clear hfz7_3
        try clear hfz9_0
        try clear hfz9_1
        try clear hfz9_2
        try clear hfz9_3
        try clear hx220_0
        try clear hx221_0
        try clear hx222_0
        try clear hx223_0
        try clear hx224_0
        try clear hx225_0
        try clear p2
        try clear p220
        try clear p221
        try clear p222
        try clear p223
        try clear p224
        try clear p225
        try clear q220
        try clear q221
        try clear q222
        try clear q223
        try clear q224
        try clear q225
        obtain ⟨x4_3, rfl, HA, HK3, BK219, HB⟩ := hrel
        cases gk with
        | zero => exact absurd HA.out (by simp [haywainref17_Right.l1])
        | succ k3 =>
         have H := HA.out
         clear HA
         simp only [haywainref17_Right.l1] at H
         by_cases c34 : x4_3 < (l0_1.length : Int)
         ·rw [if_pos c34] at H
          have c34b0 : decide (x4_3 < (l0_1.length : Int)) = true := decide_eq_true c34
          clear c34
          by_cases c35 : 0 ≤ x4_3
          ·rw [if_pos c35] at H
           have c35b0 : decide (0 ≤ x4_3) = true := decide_eq_true c35
           clear c35
           replace H := Option.bind_eq_some_iff.mp H
           obtain ⟨t227, A360, H⟩ := H
           try dsimp only at H
           have A36 := Aside0.mk A360
           clear A360
           by_cases c37 : t227 = true
           ·subst c37
            rw [if_pos rfl] at H
            have H' := Aside0.mk H
            clear H
            have hcz38_0 : wr.cell? ⟨gb219, 0, none⟩ = some (.int .i64 a0_0) := (blk_cell BK219.out 0).trans rfl
            have hcz38_1 : wr.cell? ⟨gb219, 1, none⟩ = some (.slice A0_1 l0_1.length c0_1) := (blk_cell BK219.out 1).trans rfl
            have hcz38_2 : wr.cell? ⟨gb219, 2, none⟩ = some (.slice A0_2 l0_2.length c0_2) := (blk_cell BK219.out 2).trans rfl
            have hcz38_3 : wr.cell? ⟨gb219, 3, none⟩ = some (.slice A0_3 l0_3.length c0_3) := (blk_cell BK219.out 3).trans rfl
            have hfz38_0 := blk_frozen BK219.out 0
            have hfz38_1 := blk_frozen BK219.out 1
            have hfz38_2 := blk_frozen BK219.out 2
            have hfz38_3 := blk_frozen BK219.out 3
            have p226 : 0 ≤ (x4_3 : Int) := of_decide_eq_true (by first | (with_reducible assumption) | assumption)
            have q226 : x4_3 < (l0_1.length : Int) := of_decide_eq_true (by first | (with_reducible assumption) | assumption)
            obtain ⟨ad226, e226, hx226_0⟩ := Kd.at_int HR0_1.out x4_3 p226 q226
            cases e226
            replace hx226_0 := (HB.out.cell (World.block_lt_of_cell? w _ hx226_0)).trans hx226_0
            replace p226 := eq_true p226
            replace q226 := eq_true q226
            go_wp2_with (first | (go_at_call 23; (with_reducible refine (haywainref09_Has.calls k3 _ _ l0_2 (rd l0_1 x4_3) true _ ?side1 ?side2 A36.out).mono ?_); (case side1 => repeat (first | exact (Kd.C_below HR0_2.out HB.out) | (with_reducible refine Kd.C_alloc ?_ _) | (with_reducible refine Kd.C_drewN ?_ _) | (with_reducible refine Kd.C_drew ?_))); (case side2 => exact HC0_2.out); rintro e w' ⟨rfl, ⟨nd, rfl⟩⟩; (try first | exact ⟨rfl, _, World.drewN_drewN _ _ _⟩ | exact ⟨rfl, _, Eq.trans (World.drewN_drewN _ _ _) (congrArg (World.drewN _) (Nat.add_assoc _ _ _))⟩)))
            repeat (go_quiet (first | (go_at_call 23; (with_reducible refine (haywainref09_Has.calls k3 _ _ l0_2 (rd l0_1 x4_3) true _ ?side1 ?side2 A36.out).mono ?_); (case side1 => repeat (first | exact (Kd.C_below HR0_2.out HB.out) | (with_reducible refine Kd.C_alloc ?_ _) | (with_reducible refine Kd.C_drewN ?_ _) | (with_reducible refine Kd.C_drew ?_))); (case side2 => exact HC0_2.out); rintro e w' ⟨rfl, ⟨nd, rfl⟩⟩; (try first | exact ⟨rfl, _, World.drewN_drewN _ _ _⟩ | exact ⟨rfl, _, Eq.trans (World.drewN_drewN _ _ _) (congrArg (World.drewN _) (Nat.add_assoc _ _ _))⟩))); try go_wp2_with (first | (go_at_call 23; (with_reducible refine (haywainref09_Has.calls k3 _ _ l0_2 (rd l0_1 x4_3) true _ ?side1 ?side2 A36.out).mono ?_); (case side1 => repeat (first | exact (Kd.C_below HR0_2.out HB.out) | (with_reducible refine Kd.C_alloc ?_ _) | (with_reducible refine Kd.C_drewN ?_ _) | (with_reducible refine Kd.C_drew ?_))); (case side2 => exact HC0_2.out); rintro e w' ⟨rfl, ⟨nd, rfl⟩⟩; (try first | exact ⟨rfl, _, World.drewN_drewN _ _ _⟩ | exact ⟨rfl, _, Eq.trans (World.drewN_drewN _ _ _) (congrArg (World.drewN _) (Nat.add_assoc _ _ _))⟩))))
            go_roundg k3
            case measure => have := HJ1.out; have := HK2.out; have := HK3.out; omega
            case rel => exact ⟨(wrap64 (x4_3 + 1)), (by first | rfl | (simp; done) | (simp [*]; done)), H', ⟨by have := HJ1.out; have := HK2.out; have := HK3.out; omega⟩, ⟨BL BK219.out⟩, ⟨by repeat (first | (with_reducible first | exact HB.out | apply below_alloc | apply pw_below_drewN | apply below_drew1 | refine below_set ?_ (Aside0.out (by assumption))) | exact HB.out)⟩⟩
           ·replace c37 := Bool.eq_false_iff.mpr c37
            subst c37
            rw [if_neg (show ¬ (false = true) by decide)] at H
            obtain rfl := Option.some.inj H
            have hcz39_0 : wr.cell? ⟨gb219, 0, none⟩ = some (.int .i64 a0_0) := (blk_cell BK219.out 0).trans rfl
            have hcz39_1 : wr.cell? ⟨gb219, 1, none⟩ = some (.slice A0_1 l0_1.length c0_1) := (blk_cell BK219.out 1).trans rfl
            have hcz39_2 : wr.cell? ⟨gb219, 2, none⟩ = some (.slice A0_2 l0_2.length c0_2) := (blk_cell BK219.out 2).trans rfl
            have hcz39_3 : wr.cell? ⟨gb219, 3, none⟩ = some (.slice A0_3 l0_3.length c0_3) := (blk_cell BK219.out 3).trans rfl
            have hfz39_0 := blk_frozen BK219.out 0
            have hfz39_1 := blk_frozen BK219.out 1
            have hfz39_2 := blk_frozen BK219.out 2
            have hfz39_3 := blk_frozen BK219.out 3
            have p226 : 0 ≤ (x4_3 : Int) := of_decide_eq_true (by first | (with_reducible assumption) | assumption)
            have q226 : x4_3 < (l0_1.length : Int) := of_decide_eq_true (by first | (with_reducible assumption) | assumption)
            obtain ⟨ad226, e226, hx226_0⟩ := Kd.at_int HR0_1.out x4_3 p226 q226
            cases e226
            replace hx226_0 := (HB.out.cell (World.block_lt_of_cell? w _ hx226_0)).trans hx226_0
            replace p226 := eq_true p226
            replace q226 := eq_true q226
            go_wp2_with (first | (go_at_call 23; (with_reducible refine (haywainref09_Has.calls k3 _ _ l0_2 (rd l0_1 x4_3) false _ ?side1 ?side2 A36.out).mono ?_); (case side1 => repeat (first | exact (Kd.C_below HR0_2.out HB.out) | (with_reducible refine Kd.C_alloc ?_ _) | (with_reducible refine Kd.C_drewN ?_ _) | (with_reducible refine Kd.C_drew ?_))); (case side2 => exact HC0_2.out); rintro e w' ⟨rfl, ⟨nd, rfl⟩⟩; (try first | exact ⟨rfl, _, World.drewN_drewN _ _ _⟩ | exact ⟨rfl, _, Eq.trans (World.drewN_drewN _ _ _) (congrArg (World.drewN _) (Nat.add_assoc _ _ _))⟩)))
            repeat (go_quiet (first | (go_at_call 23; (with_reducible refine (haywainref09_Has.calls k3 _ _ l0_2 (rd l0_1 x4_3) false _ ?side1 ?side2 A36.out).mono ?_); (case side1 => repeat (first | exact (Kd.C_below HR0_2.out HB.out) | (with_reducible refine Kd.C_alloc ?_ _) | (with_reducible refine Kd.C_drewN ?_ _) | (with_reducible refine Kd.C_drew ?_))); (case side2 => exact HC0_2.out); rintro e w' ⟨rfl, ⟨nd, rfl⟩⟩; (try first | exact ⟨rfl, _, World.drewN_drewN _ _ _⟩ | exact ⟨rfl, _, Eq.trans (World.drewN_drewN _ _ _) (congrArg (World.drewN _) (Nat.add_assoc _ _ _))⟩))); try go_wp2_with (first | (go_at_call 23; (with_reducible refine (haywainref09_Has.calls k3 _ _ l0_2 (rd l0_1 x4_3) false _ ?side1 ?side2 A36.out).mono ?_); (case side1 => repeat (first | exact (Kd.C_below HR0_2.out HB.out) | (with_reducible refine Kd.C_alloc ?_ _) | (with_reducible refine Kd.C_drewN ?_ _) | (with_reducible refine Kd.C_drew ?_))); (case side2 => exact HC0_2.out); rintro e w' ⟨rfl, ⟨nd, rfl⟩⟩; (try first | exact ⟨rfl, _, World.drewN_drewN _ _ _⟩ | exact ⟨rfl, _, Eq.trans (World.drewN_drewN _ _ _) (congrArg (World.drewN _) (Nat.add_assoc _ _ _))⟩))))
            go_ret
            exact ⟨by first | rfl | (simp [errW_none, errW_some] <;> rfl) | (simp [*, errW_none, errW_some] <;> rfl), by repeat (first | (with_reducible first | exact HB.out | apply below_alloc | apply pw_below_drewN | apply below_drew1 | refine below_set ?_ (Aside0.out (by assumption))) | exact HB.out)⟩
          ·rw [if_neg c35] at H
           exact absurd H (by simp)
         ·rw [if_neg c34] at H
          have c34b0 : decide (x4_3 < (l0_1.length : Int)) = false := decide_eq_false c34
          clear c34
          obtain rfl := Option.some.inj H
          have hcz40_0 : wr.cell? ⟨gb219, 0, none⟩ = some (.int .i64 a0_0) := (blk_cell BK219.out 0).trans rfl
          have hcz40_1 : wr.cell? ⟨gb219, 1, none⟩ = some (.slice A0_1 l0_1.length c0_1) := (blk_cell BK219.out 1).trans rfl
          have hcz40_2 : wr.cell? ⟨gb219, 2, none⟩ = some (.slice A0_2 l0_2.length c0_2) := (blk_cell BK219.out 2).trans rfl
          have hcz40_3 : wr.cell? ⟨gb219, 3, none⟩ = some (.slice A0_3 l0_3.length c0_3) := (blk_cell BK219.out 3).trans rfl
          have hfz40_0 := blk_frozen BK219.out 0
          have hfz40_1 := blk_frozen BK219.out 1
          have hfz40_2 := blk_frozen BK219.out 2
          have hfz40_3 := blk_frozen BK219.out 3
          go_wp2
          repeat (go_quiet (fail); try go_wp2)
          go_ret
          exact ⟨by first | rfl | (simp [errW_none, errW_some] <;> rfl) | (simp [*, errW_none, errW_some] <;> rfl), by repeat (first | (with_reducible first | exact HB.out | apply below_alloc | apply pw_below_drewN | apply below_drew1 | refine below_set ?_ (Aside0.out (by assumption))) | exact HB.out)⟩

end Go.Proofs.Ytaanojcdmojgbaa.PRouteN
