-- Printed for this claim by a turned copy of the print (wip/tools/patch.py); a text of this session, not of print.sh.
import Derived.Test.YtbelnafoidbcjaaPMovex0
import Derived.Test.YtbelnafoidbcjaaPMovex6
import Derived.Test.YtbelnafoidbcjaaXStrip
namespace Go.Proofs.Ytbelnafoidbcjaa.PMove
open Go.RowKit Go.Proofs.YtbelnafoidbcjaaW.PrintWords Go.Proofs.YtbelnafoidbcjaaW.PrintLast Go.Proofs.YtbelnafoidbcjaaW.PrintMore
attribute [local go_sem] max2_int min2_int max_two min_two max_three min_three max_four min_four   -- for this text's walks alone
set_option linter.unusedVariables false
set_option linter.unusedSimpArgs false

/-! ### haywainref18_All: function 26 -/
def haywainref18_All.l0 : Nat → Int → Int → List Int → List Int → List Int → Int → Option (Bool)
 | 0, _, _, _, _, _, _ => none
 | k + 1, x3, x304000, x304001, x304002, x304003, x304004 => if x3 < (x304001.length : Int) then ((haywainref18_Goes.f x304000 x304001 x304002 x304003 x304004 x3).bind fun t304 => (if t304 = true then ((haywainref09_Has.f k x304003 x3).bind fun t305 => (if t305 = true then (haywainref18_All.l0 k (wrap64 (x3 + 1)) x304000 x304001 x304002 x304003 x304004) else (some false))) else (haywainref18_All.l0 k (wrap64 (x3 + 1)) x304000 x304001 x304002 x304003 x304004))) else (some true)
def haywainref18_All.f (k : Nat) (a0_0 : Int) (l0_1 : List Int) (l0_2 : List Int) (l0_3 : List Int) (a0_4 : Int) : Option (Bool) := haywainref18_All.l0 k 0 a0_0 l0_1 l0_2 l0_3 a0_4
theorem haywainref18_All.mono_l : ∀ k, (∀ y0 y1 y2 y3 y4 y5, LeO (haywainref18_All.l0 k y0 y1 y2 y3 y4 y5) (haywainref18_All.l0 (k + 1) y0 y1 y2 y3 y4 y5))
 | 0 => fun _ _ _ _ _ _ r h => by simp [haywainref18_All.l0] at h
 | k + 1 => by
  have ih0 := haywainref18_All.mono_l k
  ·intro y0 y1 y2 y3 y4 y5
   unfold haywainref18_All.l0
   repeat' first
   | (with_reducible exact ih0 _ _ _ _ _ _)
   | (with_reducible exact haywainref09_Has.mono _ _ _)
   | (with_reducible exact LeO.refl _)
   | (with_reducible exact LeO.none _)
   | (with_reducible refine LeO.ite ?_ ?_)
   | (with_reducible refine LeO.bind ?_ (fun _ => ?_))
   | exact ih0 _ _ _ _ _ _
   | exact haywainref09_Has.mono _ _ _
   | exact LeO.none _
   | refine LeO.ite ?_ ?_
   | refine LeO.bind ?_ (fun _ => ?_)
theorem haywainref18_All.mono : ∀ a0 a1 a2 a3 a4 k, LeO (haywainref18_All.f k a0 a1 a2 a3 a4) (haywainref18_All.f (k + 1) a0 a1 a2 a3 a4) := by
 intro a0 a1 a2 a3 a4 k
 have ih0 := haywainref18_All.mono_l k
 unfold haywainref18_All.f
 repeat' first
   | (with_reducible exact ih0 _ _ _ _ _ _)
   | (with_reducible exact haywainref09_Has.mono _ _ _)
   | (with_reducible exact LeO.refl _)
   | (with_reducible exact LeO.none _)
   | (with_reducible refine LeO.ite ?_ ?_)
   | (with_reducible refine LeO.bind ?_ (fun _ => ?_))
   | exact ih0 _ _ _ _ _ _
   | exact haywainref09_Has.mono _ _ _
   | exact LeO.none _
   | refine LeO.ite ?_ ?_
   | refine LeO.bind ?_ (fun _ => ?_)
set_option maxHeartbeats 8000000 in
set_option maxRecDepth 100000 in
theorem haywainref18_All.calls (k : Nat) (a0_0 : Int) (A0_1 : Option Addr) (c0_1 : Nat) (l0_1 : List Int) (A0_2 : Option Addr) (c0_2 : Nat) (l0_2 : List Int) (A0_3 : Option Addr) (c0_3 : Nat) (l0_3 : List Int) (a0_4 : Int) (r : Bool) (w : World) (hr0_1 : Kd.C (Kd.int .i64) w A0_1 l0_1.length l0_1) (hc0_1 : l0_1.length ≤ c0_1) (hr0_2 : Kd.C (Kd.int .i64) w A0_2 l0_2.length l0_2) (hc0_2 : l0_2.length ≤ c0_2) (hr0_3 : Kd.C (Kd.int .i64) w A0_3 l0_3.length l0_3) (hc0_3 : l0_3.length ≤ c0_3) (h : haywainref18_All.f k a0_0 l0_1 l0_2 l0_3 a0_4 = some r) :
  Calls Try.prog 26 #[.agg #[.int .i64 a0_0, .slice A0_1 l0_1.length c0_1, .slice A0_2 l0_2.length c0_2, .slice A0_3 l0_3.length c0_3, .int .i64 a0_4]] w fun e w' => e = .returned (.bool r) ∧ Below w.heap.size w w' := by
 have hu29 := Try.underlying29
 have HR0_1 := Aside0.mk hr0_1
 have HC0_1 := Aside0.mk hc0_1
 clear hr0_1 hc0_1
 have HR0_2 := Aside0.mk hr0_2
 have HC0_2 := Aside0.mk hc0_2
 clear hr0_2 hc0_2
 have HR0_3 := Aside0.mk hr0_3
 have HC0_3 := Aside0.mk hc0_3
 clear hr0_3 hc0_3
 have HB := Aside0.mk (Below.refl w.heap.size w)
 have H : (haywainref18_All.l0 k 0 a0_0 l0_1 l0_2 l0_3 a0_4) = some r := h
 clear h
 have H' := Aside0.mk H
 clear H
 go_enter Try.func26, Try.ntmps26
 go_wp2_with (first | ((with_reducible refine gate_dst (N := 1) rfl ?_); refine box_event ?hg (N := 1) ?hd (cs := #[.int .i64 a0_0, .slice A0_1 l0_1.length c0_1, .slice A0_2 l0_2.length c0_2, .slice A0_3 l0_3.length c0_3, .int .i64 a0_4]) (t := 29) ?hr ?_; (case hd => rfl); (case hg => rfl); (case hr => first | (go_simp; done) | (go_simp; rfl)); intro gb303 hg w2 hbox hb; have n0_ := Aside0.mk (below_step (BW HB.out) hb); have n1_ := Aside0.mk (hbox); have n2_ := Aside0.mk ((by rw [hg]; exact (below_size (BW HB.out)) : w.heap.size ≤ gb303)); have n3_ := Aside0.mk ((by rw [hg]; exact (below_size (BW HB.out)) : w.heap.size ≤ gb303)); clear HB; have HB := n0_; have BK303 := n1_; have GW303 := n2_; have GE303 := n3_; clear n0_ n1_ n2_ n3_; clear hb hbox hg))
 go_loopg [3] k (fun kq v3 w' => ∃ (x3_1 : Int), v3 = .int .i64 x3_1 ∧ Aside0 (haywainref18_All.l0 kq x3_1 a0_0 l0_1 l0_2 l0_3 a0_4 = some r) ∧ Aside0 (kq ≤ k) ∧ Aside0 (w'.heap[gb303]? = some (.cells #[.int .i64 a0_0, (.slice A0_1 l0_1.length c0_1), (.slice A0_2 l0_2.length c0_2), (.slice A0_3 l0_3.length c0_3), .int .i64 a0_4] 29 (0, 0))) ∧ Aside0 (Below w.heap.size w w'))
 case atStart => exact ⟨(0), (by first | rfl | (simp; done) | (simp [*]; done)), H', ⟨Nat.le_refl _⟩, ⟨BL BK303.out⟩, ⟨by repeat (first | (with_reducible first | exact HB.out | apply below_alloc | apply pw_below_drewN | apply below_drew1 | refine below_set ?_ (Aside0.out (by assumption))) | exact HB.out)⟩⟩
 case round =>
  clear H'
  try clear c2
  try clear p2
  obtain ⟨x3_1, rfl, HA, HK1, BK303, HB⟩ := hrel
  cases gk with
  | zero => exact absurd HA.out (by simp [haywainref18_All.l0])
  | succ k1 =>
   have H := HA.out
   clear HA
   simp only [haywainref18_All.l0] at H
   by_cases c3 : x3_1 < (l0_1.length : Int)
   ·rw [if_pos c3] at H
    have c3b0 : decide (x3_1 < (l0_1.length : Int)) = true := decide_eq_true c3
    clear c3
    replace H := Option.bind_eq_some_iff.mp H
    obtain ⟨t304, A40, H⟩ := H
    try dsimp only at H
    have A4 := Aside0.mk A40
    clear A40
    by_cases c5 : t304 = true
    ·subst c5
     rw [if_pos rfl] at H
     replace H := Option.bind_eq_some_iff.mp H
     obtain ⟨t305, A60, H⟩ := H
     try dsimp only at H
     have A6 := Aside0.mk A60
     clear A60
     by_cases c7 : t305 = true
     ·subst c7
      rw [if_pos rfl] at H
      have H' := Aside0.mk H
      clear H
      have hcz8_0 : wr.cell? ⟨gb303, 0, none⟩ = some (.int .i64 a0_0) := (blk_cell BK303.out 0).trans rfl
      have hcz8_1 : wr.cell? ⟨gb303, 1, none⟩ = some (.slice A0_1 l0_1.length c0_1) := (blk_cell BK303.out 1).trans rfl
      have hcz8_2 : wr.cell? ⟨gb303, 2, none⟩ = some (.slice A0_2 l0_2.length c0_2) := (blk_cell BK303.out 2).trans rfl
      have hcz8_3 : wr.cell? ⟨gb303, 3, none⟩ = some (.slice A0_3 l0_3.length c0_3) := (blk_cell BK303.out 3).trans rfl
      have hcz8_4 : wr.cell? ⟨gb303, 4, none⟩ = some (.int .i64 a0_4) := (blk_cell BK303.out 4).trans rfl
      have hfz8_0 := blk_frozen BK303.out 0
      have hfz8_1 := blk_frozen BK303.out 1
      have hfz8_2 := blk_frozen BK303.out 2
      have hfz8_3 := blk_frozen BK303.out 3
      have hfz8_4 := blk_frozen BK303.out 4
      go_wp2_with (first | ((with_reducible refine gate_callee (f := 25) rfl ?_); refine goesL_ (some 13) rfl rfl Try.func25 (by kernel_rfl) rfl #[.agg #[.int .i64 a0_0, .slice A0_1 l0_1.length c0_1, .slice A0_2 l0_2.length c0_2, .slice A0_3 l0_3.length c0_3, .int .i64 a0_4], .int .i64 x3_1] rfl (by (try simp only [List.map_toArray, List.map_cons, List.map_nil]); first | done | rfl | (simp only [List.length_drop, List.length_take]; rfl)) ?_; (with_reducible refine (haywainref18_Goes.calls a0_0 _ _ l0_1 _ _ l0_2 _ _ l0_3 a0_4 x3_1 true _ ?side1 ?side2 ?side3 ?side4 ?side5 ?side6 A4.out).mono ?_); (case side1 => repeat (first | exact (Kd.C_below HR0_1.out HB.out) | (with_reducible refine Kd.C_alloc ?_ _) | (with_reducible refine Kd.C_drewN ?_ _) | (with_reducible refine Kd.C_drew ?_))); (case side2 => exact HC0_1.out); (case side3 => repeat (first | exact (Kd.C_below HR0_2.out HB.out) | (with_reducible refine Kd.C_alloc ?_ _) | (with_reducible refine Kd.C_drewN ?_ _) | (with_reducible refine Kd.C_drew ?_))); (case side4 => exact HC0_2.out); (case side5 => repeat (first | exact (Kd.C_below HR0_3.out HB.out) | (with_reducible refine Kd.C_alloc ?_ _) | (with_reducible refine Kd.C_drewN ?_ _) | (with_reducible refine Kd.C_drew ?_))); (case side6 => exact HC0_3.out); rintro e w9 ⟨rfl, hb⟩; refine ⟨_, rfl, ?_⟩; have n0_ := Aside0.mk (blk_below (g := gb303) (o := .cells #[.int .i64 a0_0, .slice A0_1 l0_1.length c0_1, .slice A0_2 l0_2.length c0_2, .slice A0_3 l0_3.length c0_3, .int .i64 a0_4] 29 (0, 0)) (BL BK303.out) hb); have n1_ := Aside0.mk (below_step (by repeat (first | (with_reducible first | exact HB.out | apply below_alloc | apply pw_below_drewN | apply below_drew1 | refine below_set ?_ (Aside0.out (by assumption))) | exact HB.out)) hb); clear BK303; clear HB; have BK303 := n0_; have HB := n1_; clear n0_ n1_; (try clear hb); (try clear hb2); (try clear hk); (try clear hi); have hcz10_0 : w9.cell? ⟨gb303, 0, none⟩ = some (.int .i64 a0_0) := (blk_cell BK303.out 0).trans rfl; have hcz10_1 : w9.cell? ⟨gb303, 1, none⟩ = some (.slice A0_1 l0_1.length c0_1) := (blk_cell BK303.out 1).trans rfl; have hcz10_2 : w9.cell? ⟨gb303, 2, none⟩ = some (.slice A0_2 l0_2.length c0_2) := (blk_cell BK303.out 2).trans rfl; have hcz10_3 : w9.cell? ⟨gb303, 3, none⟩ = some (.slice A0_3 l0_3.length c0_3) := (blk_cell BK303.out 3).trans rfl; have hcz10_4 : w9.cell? ⟨gb303, 4, none⟩ = some (.int .i64 a0_4) := (blk_cell BK303.out 4).trans rfl; have hfz10_0 := blk_frozen BK303.out 0; have hfz10_1 := blk_frozen BK303.out 1; have hfz10_2 := blk_frozen BK303.out 2; have hfz10_3 := blk_frozen BK303.out 3; have hfz10_4 := blk_frozen BK303.out 4) | (go_at_call 31; (with_reducible refine (haywainref09_Has.calls k1 _ _ l0_3 x3_1 true _ ?side1 ?side2 A6.out).mono ?_); (case side1 => repeat (first | exact (Kd.C_below HR0_3.out HB.out) | (with_reducible refine Kd.C_alloc ?_ _) | (with_reducible refine Kd.C_drewN ?_ _) | (with_reducible refine Kd.C_drew ?_))); (case side2 => exact HC0_3.out); rintro e w' ⟨rfl, ⟨nd, rfl⟩⟩))
      go_roundg k1
      case measure => have := HK1.out; omega
      case rel => exact ⟨(wrap64 (x3_1 + 1)), (by first | rfl | (simp; done) | (simp [*]; done)), H', ⟨by have := HK1.out; omega⟩, ⟨BL BK303.out⟩, ⟨by repeat (first | (with_reducible first | exact HB.out | apply below_alloc | apply pw_below_drewN | apply below_drew1 | refine below_set ?_ (Aside0.out (by assumption))) | exact HB.out)⟩⟩
     ·replace c7 := Bool.eq_false_iff.mpr c7
      subst c7
      rw [if_neg (show ¬ (false = true) by decide)] at H
      obtain rfl := Option.some.inj H
      have hcz11_0 : wr.cell? ⟨gb303, 0, none⟩ = some (.int .i64 a0_0) := (blk_cell BK303.out 0).trans rfl
      have hcz11_1 : wr.cell? ⟨gb303, 1, none⟩ = some (.slice A0_1 l0_1.length c0_1) := (blk_cell BK303.out 1).trans rfl
      have hcz11_2 : wr.cell? ⟨gb303, 2, none⟩ = some (.slice A0_2 l0_2.length c0_2) := (blk_cell BK303.out 2).trans rfl
      have hcz11_3 : wr.cell? ⟨gb303, 3, none⟩ = some (.slice A0_3 l0_3.length c0_3) := (blk_cell BK303.out 3).trans rfl
      have hcz11_4 : wr.cell? ⟨gb303, 4, none⟩ = some (.int .i64 a0_4) := (blk_cell BK303.out 4).trans rfl
      have hfz11_0 := blk_frozen BK303.out 0
      have hfz11_1 := blk_frozen BK303.out 1
      have hfz11_2 := blk_frozen BK303.out 2
      have hfz11_3 := blk_frozen BK303.out 3
      have hfz11_4 := blk_frozen BK303.out 4
      go_wp2_with (first | ((with_reducible refine gate_callee (f := 25) rfl ?_); refine goesL_ (some 13) rfl rfl Try.func25 (by kernel_rfl) rfl #[.agg #[.int .i64 a0_0, .slice A0_1 l0_1.length c0_1, .slice A0_2 l0_2.length c0_2, .slice A0_3 l0_3.length c0_3, .int .i64 a0_4], .int .i64 x3_1] rfl (by (try simp only [List.map_toArray, List.map_cons, List.map_nil]); first | done | rfl | (simp only [List.length_drop, List.length_take]; rfl)) ?_; (with_reducible refine (haywainref18_Goes.calls a0_0 _ _ l0_1 _ _ l0_2 _ _ l0_3 a0_4 x3_1 true _ ?side1 ?side2 ?side3 ?side4 ?side5 ?side6 A4.out).mono ?_); (case side1 => repeat (first | exact (Kd.C_below HR0_1.out HB.out) | (with_reducible refine Kd.C_alloc ?_ _) | (with_reducible refine Kd.C_drewN ?_ _) | (with_reducible refine Kd.C_drew ?_))); (case side2 => exact HC0_1.out); (case side3 => repeat (first | exact (Kd.C_below HR0_2.out HB.out) | (with_reducible refine Kd.C_alloc ?_ _) | (with_reducible refine Kd.C_drewN ?_ _) | (with_reducible refine Kd.C_drew ?_))); (case side4 => exact HC0_2.out); (case side5 => repeat (first | exact (Kd.C_below HR0_3.out HB.out) | (with_reducible refine Kd.C_alloc ?_ _) | (with_reducible refine Kd.C_drewN ?_ _) | (with_reducible refine Kd.C_drew ?_))); (case side6 => exact HC0_3.out); rintro e w12 ⟨rfl, hb⟩; refine ⟨_, rfl, ?_⟩; have n0_ := Aside0.mk (blk_below (g := gb303) (o := .cells #[.int .i64 a0_0, .slice A0_1 l0_1.length c0_1, .slice A0_2 l0_2.length c0_2, .slice A0_3 l0_3.length c0_3, .int .i64 a0_4] 29 (0, 0)) (BL BK303.out) hb); have n1_ := Aside0.mk (below_step (by repeat (first | (with_reducible first | exact HB.out | apply below_alloc | apply pw_below_drewN | apply below_drew1 | refine below_set ?_ (Aside0.out (by assumption))) | exact HB.out)) hb); clear BK303; clear HB; have BK303 := n0_; have HB := n1_; clear n0_ n1_; (try clear hb); (try clear hb2); (try clear hk); (try clear hi); have hcz13_0 : w12.cell? ⟨gb303, 0, none⟩ = some (.int .i64 a0_0) := (blk_cell BK303.out 0).trans rfl; have hcz13_1 : w12.cell? ⟨gb303, 1, none⟩ = some (.slice A0_1 l0_1.length c0_1) := (blk_cell BK303.out 1).trans rfl; have hcz13_2 : w12.cell? ⟨gb303, 2, none⟩ = some (.slice A0_2 l0_2.length c0_2) := (blk_cell BK303.out 2).trans rfl; have hcz13_3 : w12.cell? ⟨gb303, 3, none⟩ = some (.slice A0_3 l0_3.length c0_3) := (blk_cell BK303.out 3).trans rfl; have hcz13_4 : w12.cell? ⟨gb303, 4, none⟩ = some (.int .i64 a0_4) := (blk_cell BK303.out 4).trans rfl; have hfz13_0 := blk_frozen BK303.out 0; have hfz13_1 := blk_frozen BK303.out 1; have hfz13_2 := blk_frozen BK303.out 2; have hfz13_3 := blk_frozen BK303.out 3; have hfz13_4 := blk_frozen BK303.out 4) | (go_at_call 31; (with_reducible refine (haywainref09_Has.calls k1 _ _ l0_3 x3_1 false _ ?side1 ?side2 A6.out).mono ?_); (case side1 => repeat (first | exact (Kd.C_below HR0_3.out HB.out) | (with_reducible refine Kd.C_alloc ?_ _) | (with_reducible refine Kd.C_drewN ?_ _) | (with_reducible refine Kd.C_drew ?_))); (case side2 => exact HC0_3.out); rintro e w' ⟨rfl, ⟨nd, rfl⟩⟩))
      go_ret
      exact ⟨by first | rfl | (simp [errW_none, errW_some] <;> rfl) | (simp [*, errW_none, errW_some] <;> rfl), by repeat (first | (with_reducible first | exact HB.out | apply below_alloc | apply pw_below_drewN | apply below_drew1 | refine below_set ?_ (Aside0.out (by assumption))) | exact HB.out)⟩
    ·replace c5 := Bool.eq_false_iff.mpr c5
     subst c5
     rw [if_neg (show ¬ (false = true) by decide)] at H
     have H' := Aside0.mk H
     clear H
     have hcz14_0 : wr.cell? ⟨gb303, 0, none⟩ = some (.int .i64 a0_0) := (blk_cell BK303.out 0).trans rfl
     have hcz14_1 : wr.cell? ⟨gb303, 1, none⟩ = some (.slice A0_1 l0_1.length c0_1) := (blk_cell BK303.out 1).trans rfl
     have hcz14_2 : wr.cell? ⟨gb303, 2, none⟩ = some (.slice A0_2 l0_2.length c0_2) := (blk_cell BK303.out 2).trans rfl
     have hcz14_3 : wr.cell? ⟨gb303, 3, none⟩ = some (.slice A0_3 l0_3.length c0_3) := (blk_cell BK303.out 3).trans rfl
     have hcz14_4 : wr.cell? ⟨gb303, 4, none⟩ = some (.int .i64 a0_4) := (blk_cell BK303.out 4).trans rfl
     have hfz14_0 := blk_frozen BK303.out 0
     have hfz14_1 := blk_frozen BK303.out 1
     have hfz14_2 := blk_frozen BK303.out 2
     have hfz14_3 := blk_frozen BK303.out 3
     have hfz14_4 := blk_frozen BK303.out 4
     go_wp2_with (first | ((with_reducible refine gate_callee (f := 25) rfl ?_); refine goesL_ (some 13) rfl rfl Try.func25 (by kernel_rfl) rfl #[.agg #[.int .i64 a0_0, .slice A0_1 l0_1.length c0_1, .slice A0_2 l0_2.length c0_2, .slice A0_3 l0_3.length c0_3, .int .i64 a0_4], .int .i64 x3_1] rfl (by (try simp only [List.map_toArray, List.map_cons, List.map_nil]); first | done | rfl | (simp only [List.length_drop, List.length_take]; rfl)) ?_; (with_reducible refine (haywainref18_Goes.calls a0_0 _ _ l0_1 _ _ l0_2 _ _ l0_3 a0_4 x3_1 false _ ?side1 ?side2 ?side3 ?side4 ?side5 ?side6 A4.out).mono ?_); (case side1 => repeat (first | exact (Kd.C_below HR0_1.out HB.out) | (with_reducible refine Kd.C_alloc ?_ _) | (with_reducible refine Kd.C_drewN ?_ _) | (with_reducible refine Kd.C_drew ?_))); (case side2 => exact HC0_1.out); (case side3 => repeat (first | exact (Kd.C_below HR0_2.out HB.out) | (with_reducible refine Kd.C_alloc ?_ _) | (with_reducible refine Kd.C_drewN ?_ _) | (with_reducible refine Kd.C_drew ?_))); (case side4 => exact HC0_2.out); (case side5 => repeat (first | exact (Kd.C_below HR0_3.out HB.out) | (with_reducible refine Kd.C_alloc ?_ _) | (with_reducible refine Kd.C_drewN ?_ _) | (with_reducible refine Kd.C_drew ?_))); (case side6 => exact HC0_3.out); rintro e w15 ⟨rfl, hb⟩; refine ⟨_, rfl, ?_⟩; have n0_ := Aside0.mk (blk_below (g := gb303) (o := .cells #[.int .i64 a0_0, .slice A0_1 l0_1.length c0_1, .slice A0_2 l0_2.length c0_2, .slice A0_3 l0_3.length c0_3, .int .i64 a0_4] 29 (0, 0)) (BL BK303.out) hb); have n1_ := Aside0.mk (below_step (by repeat (first | (with_reducible first | exact HB.out | apply below_alloc | apply pw_below_drewN | apply below_drew1 | refine below_set ?_ (Aside0.out (by assumption))) | exact HB.out)) hb); clear BK303; clear HB; have BK303 := n0_; have HB := n1_; clear n0_ n1_; (try clear hb); (try clear hb2); (try clear hk); (try clear hi)))
     go_roundg k1
     case measure => have := HK1.out; omega
     case rel => exact ⟨(wrap64 (x3_1 + 1)), (by first | rfl | (simp; done) | (simp [*]; done)), H', ⟨by have := HK1.out; omega⟩, ⟨BL BK303.out⟩, ⟨by repeat (first | (with_reducible first | exact HB.out | apply below_alloc | apply pw_below_drewN | apply below_drew1 | refine below_set ?_ (Aside0.out (by assumption))) | exact HB.out)⟩⟩
   ·rw [if_neg c3] at H
    have c3b0 : decide (x3_1 < (l0_1.length : Int)) = false := decide_eq_false c3
    clear c3
    obtain rfl := Option.some.inj H
    have hcz16_0 : wr.cell? ⟨gb303, 0, none⟩ = some (.int .i64 a0_0) := (blk_cell BK303.out 0).trans rfl
    have hcz16_1 : wr.cell? ⟨gb303, 1, none⟩ = some (.slice A0_1 l0_1.length c0_1) := (blk_cell BK303.out 1).trans rfl
    have hcz16_2 : wr.cell? ⟨gb303, 2, none⟩ = some (.slice A0_2 l0_2.length c0_2) := (blk_cell BK303.out 2).trans rfl
    have hcz16_3 : wr.cell? ⟨gb303, 3, none⟩ = some (.slice A0_3 l0_3.length c0_3) := (blk_cell BK303.out 3).trans rfl
    have hcz16_4 : wr.cell? ⟨gb303, 4, none⟩ = some (.int .i64 a0_4) := (blk_cell BK303.out 4).trans rfl
    have hfz16_0 := blk_frozen BK303.out 0
    have hfz16_1 := blk_frozen BK303.out 1
    have hfz16_2 := blk_frozen BK303.out 2
    have hfz16_3 := blk_frozen BK303.out 3
    have hfz16_4 := blk_frozen BK303.out 4
    go_wp2
    go_ret
    exact ⟨by first | rfl | (simp [errW_none, errW_some] <;> rfl) | (simp [*, errW_none, errW_some] <;> rfl), by repeat (first | (with_reducible first | exact HB.out | apply below_alloc | apply pw_below_drewN | apply below_drew1 | refine below_set ?_ (Aside0.out (by assumption))) | exact HB.out)⟩

end Go.Proofs.Ytbelnafoidbcjaa.PMove
