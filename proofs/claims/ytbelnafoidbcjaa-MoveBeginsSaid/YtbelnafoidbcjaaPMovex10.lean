-- Printed for this claim by a turned copy of the print (wip/tools/patch.py); a text of this session, not of print.sh.
import Derived.Test.YtbelnafoidbcjaaPMovex0
import Derived.Test.YtbelnafoidbcjaaPMovex4
import Derived.Test.YtbelnafoidbcjaaPMovex6
import Derived.Test.YtbelnafoidbcjaaPMovex9
import Derived.Test.YtbelnafoidbcjaaXStrip
namespace Go.Proofs.Ytbelnafoidbcjaa.PMove
open Go.RowKit Go.Proofs.YtbelnafoidbcjaaW.PrintWords Go.Proofs.YtbelnafoidbcjaaW.PrintLast Go.Proofs.YtbelnafoidbcjaaW.PrintMore
attribute [local go_sem] max2_int min2_int max_two min_two max_three min_three max_four min_four   -- for this text's walks alone
set_option linter.unusedVariables false
set_option linter.unusedSimpArgs false

/-! ### haywainlaw18_MoveBegins: function 3 -/
def haywainlaw18_MoveBegins.j0 : Nat → Int → List Int → List Int → Bool → Option (Bool)
 | 0, _, _, _, _ => none
 | k + 1, x0, x1, x2, x18 => if x18 = true then ((haywainlaw18_knows.f k).bind fun t331 => (some t331)) else ((move_Begin.f k x0 x1 x2).bind fun bt332 => ((haywainref18_Begin.f k x0 x1 x2).bind fun bt345 => ((haywainlaw18_as.f bt332.1 bt332.2.1 bt332.2.2.1 bt332.2.2.2.1 bt332.2.2.2.2.1).bind fun bt358 => ((haywainref18_Same.f k bt358.1 bt358.2.1 bt358.2.2.1 bt358.2.2.2.1 bt358.2.2.2.2 bt345.1 bt345.2.1 bt345.2.2.1 bt345.2.2.2.1 bt345.2.2.2.2.1).bind fun t369 => (if t369 = true then (if bt332.2.2.2.2.2 = bt345.2.2.2.2.2 then ((haywainlaw18_knows.f k).bind fun t370 => (some t370)) else (none)) else (none))))))
def haywainlaw18_MoveBegins.f (k : Nat) (a0 : Int) (l1 : List Int) (l2 : List Int) : Option (Bool) := if (l1.length : Int) > 50 then (haywainlaw18_MoveBegins.j0 k a0 l1 l2 true) else (haywainlaw18_MoveBegins.j0 k a0 l1 l2 (decide ((l2.length : Int) > 50)))
theorem haywainlaw18_MoveBegins.mono_l : ∀ k, (∀ y0 y1 y2 y3, LeO (haywainlaw18_MoveBegins.j0 k y0 y1 y2 y3) (haywainlaw18_MoveBegins.j0 (k + 1) y0 y1 y2 y3))
 | 0 => fun _ _ _ _ r h => by simp [haywainlaw18_MoveBegins.j0] at h
 | k + 1 => by
  have ih0 := haywainlaw18_MoveBegins.mono_l k
  ·intro y0 y1 y2 y3
   unfold haywainlaw18_MoveBegins.j0
   repeat' first
   | (with_reducible exact ih0 _ _ _ _)
   | (with_reducible exact haywainlaw18_knows.mono _)
   | (with_reducible exact haywainref18_Begin.mono _ _ _ _)
   | (with_reducible exact haywainref18_Same.mono _ _ _ _ _ _ _ _ _ _ _)
   | (with_reducible exact move_Begin.mono _ _ _ _)
   | (with_reducible exact LeO.refl _)
   | (with_reducible exact LeO.none _)
   | (with_reducible refine LeO.ite ?_ ?_)
   | (with_reducible refine LeO.bind ?_ (fun _ => ?_))
   | exact ih0 _ _ _ _
   | exact haywainlaw18_knows.mono _
   | exact haywainref18_Begin.mono _ _ _ _
   | exact haywainref18_Same.mono _ _ _ _ _ _ _ _ _ _ _
   | exact move_Begin.mono _ _ _ _
   | exact LeO.none _
   | refine LeO.ite ?_ ?_
   | refine LeO.bind ?_ (fun _ => ?_)
theorem haywainlaw18_MoveBegins.mono : ∀ a0 a1 a2 k, LeO (haywainlaw18_MoveBegins.f k a0 a1 a2) (haywainlaw18_MoveBegins.f (k + 1) a0 a1 a2) := by
 intro a0 a1 a2 k
 have ih0 := haywainlaw18_MoveBegins.mono_l k
 unfold haywainlaw18_MoveBegins.f
 repeat' first
   | (with_reducible exact ih0 _ _ _ _)
   | (with_reducible exact haywainlaw18_knows.mono _)
   | (with_reducible exact haywainref18_Begin.mono _ _ _ _)
   | (with_reducible exact haywainref18_Same.mono _ _ _ _ _ _ _ _ _ _ _)
   | (with_reducible exact move_Begin.mono _ _ _ _)
   | (with_reducible exact LeO.refl _)
   | (with_reducible exact LeO.none _)
   | (with_reducible refine LeO.ite ?_ ?_)
   | (with_reducible refine LeO.bind ?_ (fun _ => ?_))
   | exact ih0 _ _ _ _
   | exact haywainlaw18_knows.mono _
   | exact haywainref18_Begin.mono _ _ _ _
   | exact haywainref18_Same.mono _ _ _ _ _ _ _ _ _ _ _
   | exact move_Begin.mono _ _ _ _
   | exact LeO.none _
   | refine LeO.ite ?_ ?_
   | refine LeO.bind ?_ (fun _ => ?_)
def haywainlaw18_MoveBegins.T5 : Bool × List (List Nat × List Nat) := (true, [([], []), ([0], [0]), ([], []), ([1, 2, 1], [1, 2]), ([3, 3], [3]), ([4], [4]), ([4], [4]), ([5, 6, 4], [4, 5, 6]), ([4, 7], [4, 7]), ([8, 4], [8]), ([9, 9], [9]), ([9, 10], [9, 10]), ([11, 10, 0, 1, 2, 3, 4, 5, 6, 7, 8, 9, 10, 11], [11])])
def haywainlaw18_MoveBegins.B5 : List Nat := [0, 1, 0, 7, 15, 31, 31, 127, 255, 511, 1023, 2047, 4095]
theorem haywainlaw18_MoveBegins.tab5 : rtab .any (opsOf Try.f3 5) = haywainlaw18_MoveBegins.T5 := by kernel_rfl
theorem haywainlaw18_MoveBegins.bits5 : waitsOk haywainlaw18_MoveBegins.T5.2 haywainlaw18_MoveBegins.B5 = true := by kernel_rfl
set_option maxHeartbeats 8000000 in
set_option maxRecDepth 100000 in
theorem haywainlaw18_MoveBegins.calls (k : Nat) (a0 : Int) (A1 : Option Addr) (c1 : Nat) (l1 : List Int) (A2 : Option Addr) (c2 : Nat) (l2 : List Int) (r : Bool) (w : World) (hr1 : Kd.C (Kd.int .i64) w A1 l1.length l1) (hc1 : l1.length ≤ c1) (hr2 : Kd.C (Kd.int .i64) w A2 l2.length l2) (hc2 : l2.length ≤ c2) (h : haywainlaw18_MoveBegins.f k a0 l1 l2 = some r) :
  Calls Try.prog 3 #[.int .i64 a0, .slice A1 l1.length c1, .slice A2 l2.length c2] w fun e w' => e = .returned (.bool r) ∧ Below w.heap.size w w' := by
 have hu25 := Try.underlying25
 have hu29 := Try.underlying29
 have HR1 := Aside0.mk hr1
 have HC1 := Aside0.mk hc1
 clear hr1 hc1
 have HR2 := Aside0.mk hr2
 have HC2 := Aside0.mk hc2
 clear hr2 hc2
 have HB := Aside0.mk (Below.refl w.heap.size w)
 have H : (if (l1.length : Int) > 50 then (haywainlaw18_MoveBegins.j0 k a0 l1 l2 true) else (haywainlaw18_MoveBegins.j0 k a0 l1 l2 (decide ((l2.length : Int) > 50)))) = some r := h
 clear h
 have HC4 := Aside0.mk H
 clear H
 go_enter Try.func3, Try.ntmps3
 go_upto_region 1 with (fail)
 go_cut [18] (fun v18 wc => ∃ (kq : Nat) (x18_3 : Bool), v18 = .bool x18_3 ∧ Aside0 (haywainlaw18_MoveBegins.j0 kq a0 l1 l2 x18_3 = some r) ∧ Aside0 (kq ≤ k) ∧ Aside0 (Below w.heap.size w wc))
 case first =>
  have H := HC4.out
  clear HC4
  by_cases c5 : (l1.length : Int) > 50
  ·rw [if_pos c5] at H
   have c5b0 : decide (50 < (l1.length : Int)) = true := decide_eq_true c5
   have c5b1 : decide (50 < l1.length) = true := decide_eq_true (by omega)
   clear c5
   (first | rw [c5b0] | (simp only [i64_w, i32_w]; rw [c5b0]) | skip)
   have H' := Aside0.mk H
   clear H
   go_wp2
   go_meet
   case rel => exact ⟨_, (true), (by first | rfl | (simp; done) | (simp [*]; done)), H', ⟨by first | omega | exact Nat.le_refl _⟩, ⟨BW HB.out⟩⟩
  ·rw [if_neg c5] at H
   have c5b0 : decide (50 < (l1.length : Int)) = false := decide_eq_false c5
   have c5b1 : decide (50 < l1.length) = false := decide_eq_false (by omega)
   clear c5
   (first | rw [c5b0] | (simp only [i64_w, i32_w]; rw [c5b0]) | skip)
   have H' := Aside0.mk H
   clear H
   go_wp2
   go_meet
   case rel => exact ⟨_, (decide ((l2.length : Int) > 50)), (by first | rfl | (simp; done) | (simp [*]; done)), H', ⟨by first | omega | exact Nat.le_refl _⟩, ⟨BW HB.out⟩⟩
 case rest =>
  clear HC4
  try clear c1
  try clear c2
  try clear p2
  try clear c3
  try clear c5
  try clear c5b0
  try clear c5b1
  obtain ⟨kq, x18_3, rfl, HA, HJ3, HB⟩ := hcut
  cases kq with
  | zero => exact absurd HA.out (by simp [haywainlaw18_MoveBegins.j0])
  | succ kj3 =>
   have H := HA.out
   clear HA
   simp only [haywainlaw18_MoveBegins.j0] at H
   by_cases c6 : x18_3 = true
   ·subst c6
    rw [if_pos rfl] at H
    replace H := Option.bind_eq_some_iff.mp H
    obtain ⟨t331, A70, H⟩ := H
    try dsimp only at H
    have A7 := Aside0.mk A70
    clear A70
    obtain rfl := Option.some.inj H
    go_wp2_with (first | ((with_reducible refine gate_callee (f := 6) rfl ?_); refine goesL_ (some 19) rfl rfl Try.func6 (by kernel_rfl) rfl #[] rfl (by (try simp only [List.map_toArray, List.map_cons, List.map_nil]); first | done | rfl | (simp only [List.length_drop, List.length_take]; rfl)) ?_; (with_reducible refine (haywainlaw18_knows.calls kj3  t331 _ A7.out).mono ?_); rintro e w8 ⟨rfl, hb⟩; refine ⟨_, rfl, ?_⟩; have n0_ := Aside0.mk (below_step (BW HB.out) hb); clear HB; have HB := n0_; clear n0_; (try clear hb); (try clear hb2); (try clear hk); (try clear hi)))
    go_ret
    exact ⟨by first | rfl | (simp [errW_none, errW_some] <;> rfl) | (simp [*, errW_none, errW_some] <;> rfl), BW HB.out⟩
   ·replace c6 := Bool.eq_false_iff.mpr c6
    subst c6
    rw [if_neg (show ¬ (false = true) by decide)] at H
    replace H := Option.bind_eq_some_iff.mp H
    obtain ⟨⟨t332, t333, t336, t339, t342, t343⟩, A90, H⟩ := H
    try dsimp only at H
    have A9 := Aside0.mk A90
    clear A90
    replace H := Option.bind_eq_some_iff.mp H
    obtain ⟨⟨t345, t346, t349, t352, t355, t356⟩, A100, H⟩ := H
    try dsimp only at H
    have A10 := Aside0.mk A100
    clear A100
    replace H := Option.bind_eq_some_iff.mp H
    obtain ⟨⟨t358, t359, t362, t365, t368⟩, A110, H⟩ := H
    try dsimp only at H
    have A11 := Aside0.mk A110
    clear A110
    replace H := Option.bind_eq_some_iff.mp H
    obtain ⟨t369, A120, H⟩ := H
    try dsimp only at H
    have A12 := Aside0.mk A120
    clear A120
    by_cases c13 : t369 = true
    ·subst c13
     rw [if_pos rfl] at H
     by_cases c14 : t343 = t356
     ·rw [if_pos c14] at H
      have c14b0 : (t343 == t356) = true := beq_iff_eq.mpr c14
      have c14b1 : (t343 != t356) = false := bne_eq_false_iff_eq.mpr c14
      clear c14
      replace H := Option.bind_eq_some_iff.mp H
      obtain ⟨t370, A150, H⟩ := H
      try dsimp only at H
      have A15 := Aside0.mk A150
      clear A150
      obtain rfl := Option.some.inj H
      try go_wp2_with (first | ((with_reducible refine gate_callee (f := 7) rfl ?_); refine goesL_ (some 24) rfl rfl Try.func7 (by kernel_rfl) rfl #[.int .i64 a0, .slice A1 l1.length c1, .slice A2 l2.length c2] rfl (by (try simp only [List.map_toArray, List.map_cons, List.map_nil]); first | done | rfl | (simp only [List.length_drop, List.length_take]; rfl)) ?_; (with_reducible refine (move_Begin.calls kj3 a0 _ _ l1 _ _ l2 t332 t333 t336 t339 t342 t343 _ ?side1 ?side2 ?side3 ?side4 A9.out).mono ?_); (case side1 => repeat (first | exact (Kd.C_below HR1.out HB.out) | (with_reducible refine Kd.C_alloc ?_ _) | (with_reducible refine Kd.C_drewN ?_ _) | (with_reducible refine Kd.C_drew ?_))); (case side2 => exact HC1.out); (case side3 => repeat (first | exact (Kd.C_below HR2.out HB.out) | (with_reducible refine Kd.C_alloc ?_ _) | (with_reducible refine Kd.C_drewN ?_ _) | (with_reducible refine Kd.C_drew ?_))); (case side4 => exact HC2.out); rintro e w16 ⟨v334, v337, v340, rfl, ho0, ho1, ho2, hb⟩; refine ⟨_, rfl, ?_⟩; have n0_ := Aside0.mk (Kd.R_lower ho0 (below_size (BW HB.out))); have n1_ := Aside0.mk (Kd.R_lower ho1 (below_size (BW HB.out))); have n2_ := Aside0.mk (Kd.R_lower ho2 (below_size (BW HB.out))); have n3_ := Aside0.mk (below_step (BW HB.out) hb); clear HB; have HO335 := n0_; have HO338 := n1_; have HO341 := n2_; have HB := n3_; clear n0_ n1_ n2_ n3_; (try clear hb); (try clear hb2); (try clear hk); (try clear hi); (try clear ho0); (try clear ho1); (try clear ho2)) | ((with_reducible refine gate_dst (N := 7) rfl ?_); (try (refine gate_guard (by rfl) ?_; dsimp only)); refine box_event ?hg (N := 7) ?hd (cs := #[.int .i64 0, .slice none 0 0, .slice none 0 0, .slice none 0 0, .int .i64 0]) (t := 25) ?hr ?_; (case hd => rfl); (case hg => rfl); (case hr => first | (go_simp; done) | (go_simp; rfl)); intro gb344 hg w17 hbox hb; have n0_ := Aside0.mk (Kd.R_below (Kd.RL HO335.out) hb); have n1_ := Aside0.mk (Kd.R_below (Kd.RL HO338.out) hb); have n2_ := Aside0.mk (Kd.R_below (Kd.RL HO341.out) hb); have n3_ := Aside0.mk (below_step (BW HB.out) hb); have n4_ := Aside0.mk (hbox); have n5_ := Aside0.mk ((by rw [hg]; exact (below_size (BW HB.out)) : w.heap.size ≤ gb344)); have n6_ := Aside0.mk ((by rw [hg]; exact (below_size (BW HB.out)) : w.heap.size ≤ gb344)); clear HO335; clear HO338; clear HO341; clear HB; have HO335 := n0_; have HO338 := n1_; have HO341 := n2_; have HB := n3_; have BK344 := n4_; have GW344 := n5_; have GE344 := n6_; clear n0_ n1_ n2_ n3_ n4_ n5_ n6_; clear hb hbox hg; have hcz18_0 : w17.cell? ⟨gb344, 0, none⟩ = some (.int .i64 0) := (blk_cell BK344.out 0).trans rfl; have hcz18_1 : w17.cell? ⟨gb344, 1, none⟩ = some (.slice none 0 0) := (blk_cell BK344.out 1).trans rfl; have hcz18_2 : w17.cell? ⟨gb344, 2, none⟩ = some (.slice none 0 0) := (blk_cell BK344.out 2).trans rfl; have hcz18_3 : w17.cell? ⟨gb344, 3, none⟩ = some (.slice none 0 0) := (blk_cell BK344.out 3).trans rfl; have hcz18_4 : w17.cell? ⟨gb344, 4, none⟩ = some (.int .i64 0) := (blk_cell BK344.out 4).trans rfl; have hfz18_0 := blk_frozen BK344.out 0; have hfz18_1 := blk_frozen BK344.out 1; have hfz18_2 := blk_frozen BK344.out 2; have hfz18_3 := blk_frozen BK344.out 3; have hfz18_4 := blk_frozen BK344.out 4; obtain ⟨Ao19, co19, eo19⟩ := Kd.R_slice HO335.out; subst eo19; obtain ⟨Ao20, co20, eo20⟩ := Kd.R_slice HO338.out; subst eo20; obtain ⟨Ao21, co21, eo21⟩ := Kd.R_slice HO341.out; subst eo21) | ((with_reducible refine gate_store (t := 25) (p := 7) rfl ?_); refine store_event (t := 25) (p := 7) (v := ?vo_w22) (w1 := (((((w17.setCell ⟨gb344, 0, none⟩ (.int .i64 t332)).setCell ⟨gb344, 1, none⟩ (.slice Ao19 t333.length co19)).setCell ⟨gb344, 2, none⟩ (.slice Ao20 t336.length co20)).setCell ⟨gb344, 3, none⟩ (.slice Ao21 t339.length co21)).setCell ⟨gb344, 4, none⟩ (.int .i64 t342))) ?hg ?ho ?hn ?hr ?_; (case ho => rfl); (case hg => rfl); (case hn => rfl); (case hr => first | (go_simp; done) | (go_simp; rfl)); intro w22 hw; have n0_ : Aside0 (Kd.R (Kd.int .i64) 3 w22 w.heap.size (fun k_ => some k_ ≠ (.slice Ao20 t336.length co20 : Value).ownBlock ∧ some k_ ≠ (.slice Ao21 t339.length co21 : Value).ownBlock) (.slice Ao19 t333.length co19) t333) := ⟨(by rw [hw]; exact (by apply Kd.RL; exact Kd.R_mono (Kd.R_far (p := ⟨gb344, 4, none⟩) (Kd.R_far (p := ⟨gb344, 3, none⟩) (Kd.R_far (p := ⟨gb344, 2, none⟩) (Kd.R_far (p := ⟨gb344, 1, none⟩) (Kd.R_far (p := ⟨gb344, 0, none⟩) (Kd.R_types HO335.out BK344.out (by decide)) (fun _ hk => hk.2) (.int .i64 t332)) (fun _ hk => hk.2) (.slice Ao19 t333.length co19)) (fun _ hk => hk.2) (.slice Ao20 t336.length co20)) (fun _ hk => hk.2) (.slice Ao21 t339.length co21)) (fun _ hk => hk.2) (.int .i64 t342)) (fun _ hk => ⟨hk.1.1, hk.1.2⟩)))⟩; have n1_ : Aside0 (Kd.R (Kd.int .i64) 3 w22 w.heap.size (fun k_ => some k_ ≠ (.slice Ao19 t333.length co19 : Value).ownBlock ∧ some k_ ≠ (.slice Ao21 t339.length co21 : Value).ownBlock) (.slice Ao20 t336.length co20) t336) := ⟨(by rw [hw]; exact (by apply Kd.RL; exact Kd.R_mono (Kd.R_far (p := ⟨gb344, 4, none⟩) (Kd.R_far (p := ⟨gb344, 3, none⟩) (Kd.R_far (p := ⟨gb344, 2, none⟩) (Kd.R_far (p := ⟨gb344, 1, none⟩) (Kd.R_far (p := ⟨gb344, 0, none⟩) (Kd.R_types HO338.out BK344.out (by decide)) (fun _ hk => hk.2) (.int .i64 t332)) (fun _ hk => hk.2) (.slice Ao19 t333.length co19)) (fun _ hk => hk.2) (.slice Ao20 t336.length co20)) (fun _ hk => hk.2) (.slice Ao21 t339.length co21)) (fun _ hk => hk.2) (.int .i64 t342)) (fun _ hk => ⟨hk.1.1, hk.1.2⟩)))⟩; have n2_ : Aside0 (Kd.R (Kd.int .i64) 3 w22 w.heap.size (fun k_ => some k_ ≠ (.slice Ao19 t333.length co19 : Value).ownBlock ∧ some k_ ≠ (.slice Ao20 t336.length co20 : Value).ownBlock) (.slice Ao21 t339.length co21) t339) := ⟨(by rw [hw]; exact (by apply Kd.RL; exact Kd.R_mono (Kd.R_far (p := ⟨gb344, 4, none⟩) (Kd.R_far (p := ⟨gb344, 3, none⟩) (Kd.R_far (p := ⟨gb344, 2, none⟩) (Kd.R_far (p := ⟨gb344, 1, none⟩) (Kd.R_far (p := ⟨gb344, 0, none⟩) (Kd.R_types HO341.out BK344.out (by decide)) (fun _ hk => hk.2) (.int .i64 t332)) (fun _ hk => hk.2) (.slice Ao19 t333.length co19)) (fun _ hk => hk.2) (.slice Ao20 t336.length co20)) (fun _ hk => hk.2) (.slice Ao21 t339.length co21)) (fun _ hk => hk.2) (.int .i64 t342)) (fun _ hk => ⟨hk.1.1, hk.1.2⟩)))⟩; have n3_ : Aside0 (w22.heap[gb344]? = some (.cells #[.int .i64 t332, .slice Ao19 t333.length co19, .slice Ao20 t336.length co20, .slice Ao21 t339.length co21, .int .i64 t342] 25 (0, 0))) := ⟨(by rw [hw]; exact (by apply BL; refine blk_put (cs := #[.int .i64 t332, .slice Ao19 t333.length co19, .slice Ao20 t336.length co20, .slice Ao21 t339.length co21, .int .i64 0]) ?_ 4 _ rfl; apply BL; refine blk_put (cs := #[.int .i64 t332, .slice Ao19 t333.length co19, .slice Ao20 t336.length co20, .slice none 0 0, .int .i64 0]) ?_ 3 _ rfl; apply BL; refine blk_put (cs := #[.int .i64 t332, .slice Ao19 t333.length co19, .slice none 0 0, .slice none 0 0, .int .i64 0]) ?_ 2 _ rfl; apply BL; refine blk_put (cs := #[.int .i64 t332, .slice none 0 0, .slice none 0 0, .slice none 0 0, .int .i64 0]) ?_ 1 _ rfl; apply BL; refine blk_put (cs := #[.int .i64 0, .slice none 0 0, .slice none 0 0, .slice none 0 0, .int .i64 0]) ?_ 0 _ rfl; apply BL; exact BK344.out))⟩; have n4_ : Aside0 (Below w.heap.size w w22) := ⟨(by rw [hw]; exact (by repeat (first | (with_reducible first | exact HB.out | apply below_alloc | apply pw_below_drewN | apply below_drew1 | refine below_set ?_ (Aside0.out (by assumption))) | exact HB.out)))⟩; clear hw; clear HO335; clear HO338; clear HO341; clear BK344; clear HB; have HO335 := n0_; have HO338 := n1_; have HO341 := n2_; have BK344 := n3_; have HB := n4_; clear n0_ n1_ n2_ n3_ n4_) | ((with_reducible refine gate_callee (f := 8) rfl ?_); refine goesL_ (some 31) rfl rfl Try.func8 (by kernel_rfl) rfl #[.int .i64 a0, .slice A1 l1.length c1, .slice A2 l2.length c2] rfl (by (try simp only [List.map_toArray, List.map_cons, List.map_nil]); first | done | rfl | (simp only [List.length_drop, List.length_take]; rfl)) ?_; (with_reducible refine (haywainref18_Begin.calls kj3 a0 (fun k_ => k_ < w.heap.size) _ _ l1 (fun k_ => k_ < w.heap.size) _ _ l2 t345 t346 t349 t352 t355 t356 _ ?side1 ?side2 A10.out).mono ?_); (case side1 => exact Kd.V_mk HC1.out (Kd.F_below (Kd.C_F (Kd.heap_int .i64) HR1.out) (by repeat (first | (with_reducible first | exact HB.out | apply below_alloc | apply pw_below_drewN | apply below_drew1 | refine below_set ?_ (Aside0.out (by assumption))) | exact HB.out)))); (case side2 => exact Kd.V_mk HC2.out (Kd.F_below (Kd.C_F (Kd.heap_int .i64) HR2.out) (by repeat (first | (with_reducible first | exact HB.out | apply below_alloc | apply pw_below_drewN | apply below_drew1 | refine below_set ?_ (Aside0.out (by assumption))) | exact HB.out)))); rintro e w23 ⟨v347, v350, v353, rfl, ho0, ho1, ho2, hb⟩; refine ⟨_, rfl, ?_⟩; have n0_ := Aside0.mk (Kd.R_elder' (Kd.RL HO335.out) (Kd.R_base ho2) hb); have n1_ := Aside0.mk (Kd.R_elder' (Kd.RL HO338.out) (Kd.R_base ho2) hb); have n2_ := Aside0.mk (Kd.R_elder' (Kd.RL HO341.out) (Kd.R_base ho2) hb); have n3_ := Aside0.mk (Kd.V_lower (Kd.V_mono (ok' := fun k_ => some k_ ≠ (v353 : Value).ownBlock ∧ some k_ ≠ (.slice Ao19 t333.length co19 : Value).ownBlock ∧ some k_ ≠ (.slice Ao20 t336.length co20 : Value).ownBlock ∧ some k_ ≠ (.slice Ao21 t339.length co21 : Value).ownBlock ∧ k_ ≠ gb344) ho0 (fun k_ hk_ => ⟨hk_.2, Or.elim hk_.1 (fun hs_ => Or.elim hs_ (fun hs_ => fun e_ => Nat.not_le.2 hs_ (Kd.R_base HO335.out k_ e_.symm)) (fun hs_ => fun e_ => Nat.not_le.2 hs_ (Kd.R_base HO335.out k_ e_.symm))) (fun hn_ => (Kd.fresh' (Kd.R_lt (Kd.RL HO335.out)) k_ hn_)), Or.elim hk_.1 (fun hs_ => Or.elim hs_ (fun hs_ => fun e_ => Nat.not_le.2 hs_ (Kd.R_base HO338.out k_ e_.symm)) (fun hs_ => fun e_ => Nat.not_le.2 hs_ (Kd.R_base HO338.out k_ e_.symm))) (fun hn_ => (Kd.fresh' (Kd.R_lt (Kd.RL HO338.out)) k_ hn_)), Or.elim hk_.1 (fun hs_ => Or.elim hs_ (fun hs_ => fun e_ => Nat.not_le.2 hs_ (Kd.R_base HO341.out k_ e_.symm)) (fun hs_ => fun e_ => Nat.not_le.2 hs_ (Kd.R_base HO341.out k_ e_.symm))) (fun hn_ => (Kd.fresh' (Kd.R_lt (Kd.RL HO341.out)) k_ hn_)), Or.elim hk_.1 (fun hs_ => Or.elim hs_ (fun hs_ => fun e_ => Nat.not_le.2 hs_ (by rw [e_]; exact GW344.out)) (fun hs_ => fun e_ => Nat.not_le.2 hs_ (by rw [e_]; exact GW344.out))) (fun hn_ => (Kd.freshB (g := gb344) (o := .cells #[.int .i64 t332, .slice Ao19 t333.length co19, .slice Ao20 t336.length co20, .slice Ao21 t339.length co21, .int .i64 t342] 25 (0, 0)) (BL BK344.out) k_ hn_))⟩)) (below_size (by repeat (first | (with_reducible first | exact HB.out | apply below_alloc | apply pw_below_drewN | apply below_drew1 | refine below_set ?_ (Aside0.out (by assumption))) | exact HB.out)))); have n4_ := Aside0.mk (Kd.V_lower (Kd.V_mono (ok' := fun k_ => some k_ ≠ (v353 : Value).ownBlock ∧ some k_ ≠ (.slice Ao19 t333.length co19 : Value).ownBlock ∧ some k_ ≠ (.slice Ao20 t336.length co20 : Value).ownBlock ∧ some k_ ≠ (.slice Ao21 t339.length co21 : Value).ownBlock ∧ k_ ≠ gb344) ho1 (fun k_ hk_ => ⟨hk_.2, Or.elim hk_.1 (fun hs_ => Or.elim hs_ (fun hs_ => fun e_ => Nat.not_le.2 hs_ (Kd.R_base HO335.out k_ e_.symm)) (fun hs_ => fun e_ => Nat.not_le.2 hs_ (Kd.R_base HO335.out k_ e_.symm))) (fun hn_ => (Kd.fresh' (Kd.R_lt (Kd.RL HO335.out)) k_ hn_)), Or.elim hk_.1 (fun hs_ => Or.elim hs_ (fun hs_ => fun e_ => Nat.not_le.2 hs_ (Kd.R_base HO338.out k_ e_.symm)) (fun hs_ => fun e_ => Nat.not_le.2 hs_ (Kd.R_base HO338.out k_ e_.symm))) (fun hn_ => (Kd.fresh' (Kd.R_lt (Kd.RL HO338.out)) k_ hn_)), Or.elim hk_.1 (fun hs_ => Or.elim hs_ (fun hs_ => fun e_ => Nat.not_le.2 hs_ (Kd.R_base HO341.out k_ e_.symm)) (fun hs_ => fun e_ => Nat.not_le.2 hs_ (Kd.R_base HO341.out k_ e_.symm))) (fun hn_ => (Kd.fresh' (Kd.R_lt (Kd.RL HO341.out)) k_ hn_)), Or.elim hk_.1 (fun hs_ => Or.elim hs_ (fun hs_ => fun e_ => Nat.not_le.2 hs_ (by rw [e_]; exact GW344.out)) (fun hs_ => fun e_ => Nat.not_le.2 hs_ (by rw [e_]; exact GW344.out))) (fun hn_ => (Kd.freshB (g := gb344) (o := .cells #[.int .i64 t332, .slice Ao19 t333.length co19, .slice Ao20 t336.length co20, .slice Ao21 t339.length co21, .int .i64 t342] 25 (0, 0)) (BL BK344.out) k_ hn_))⟩)) (below_size (by repeat (first | (with_reducible first | exact HB.out | apply below_alloc | apply pw_below_drewN | apply below_drew1 | refine below_set ?_ (Aside0.out (by assumption))) | exact HB.out)))); have n5_ := Aside0.mk (Kd.R_lower (Kd.R_new' (Kd.R_new' (Kd.R_new' (Kd.R_mono (ok' := fun k_ => True) ho2 (fun _ hk_ => trivial)) (Kd.R_lt (Kd.RL HO335.out))) (Kd.R_lt (Kd.RL HO338.out))) (Kd.R_lt (Kd.RL HO341.out))) (below_size (by repeat (first | (with_reducible first | exact HB.out | apply below_alloc | apply pw_below_drewN | apply below_drew1 | refine below_set ?_ (Aside0.out (by assumption))) | exact HB.out)))); have n6_ := Aside0.mk (blk_below (g := gb344) (o := .cells #[.int .i64 t332, .slice Ao19 t333.length co19, .slice Ao20 t336.length co20, .slice Ao21 t339.length co21, .int .i64 t342] 25 (0, 0)) (BL BK344.out) hb); have n7_ := Aside0.mk (below_step (by repeat (first | (with_reducible first | exact HB.out | apply below_alloc | apply pw_below_drewN | apply below_drew1 | refine below_set ?_ (Aside0.out (by assumption))) | exact HB.out)) hb); clear HO335; clear HO338; clear HO341; clear BK344; clear HB; have HO335 := n0_; have HO338 := n1_; have HO341 := n2_; have HO348 := n3_; have HO351 := n4_; have HO354 := n5_; have BK344 := n6_; have HB := n7_; clear n0_ n1_ n2_ n3_ n4_ n5_ n6_ n7_; (try clear hb); (try clear hb2); (try clear hk); (try clear hi); (try clear ho0); (try clear ho1); (try clear ho2)) | ((with_reducible refine gate_dst (N := 9) rfl ?_); (try (refine gate_guard (by rfl) ?_; dsimp only)); refine box_event ?hg (N := 9) ?hd (cs := #[.int .i64 0, .slice none 0 0, .slice none 0 0, .slice none 0 0, .int .i64 0]) (t := 29) ?hr ?_; (case hd => rfl); (case hg => rfl); (case hr => first | (go_simp; done) | (go_simp; rfl)); intro gb357 hg w24 hbox hb; have n0_ := Aside0.mk (Kd.R_below (Kd.RL HO335.out) hb); have n1_ := Aside0.mk (Kd.R_below (Kd.RL HO338.out) hb); have n2_ := Aside0.mk (Kd.R_below (Kd.RL HO341.out) hb); have n3_ := Aside0.mk (Kd.V_below (Kd.V_elderB (Kd.VL HO348.out) gb357 (Nat.le_of_eq hg.symm)) hb); have n4_ := Aside0.mk (Kd.V_below (Kd.V_elderB (Kd.VL HO351.out) gb357 (Nat.le_of_eq hg.symm)) hb); have n5_ := Aside0.mk (Kd.R_below (Kd.RL HO354.out) hb); have n6_ := Aside0.mk (blk_below (g := gb344) (o := .cells #[.int .i64 t332, .slice Ao19 t333.length co19, .slice Ao20 t336.length co20, .slice Ao21 t339.length co21, .int .i64 t342] 25 (0, 0)) (BL BK344.out) hb); have n7_ := Aside0.mk (below_step (by repeat (first | (with_reducible first | exact HB.out | apply below_alloc | apply pw_below_drewN | apply below_drew1 | refine below_set ?_ (Aside0.out (by assumption))) | exact HB.out)) hb); have n8_ := Aside0.mk (hbox); have n9_ := Aside0.mk ((by rw [hg]; exact (below_size (by repeat (first | (with_reducible first | exact HB.out | apply below_alloc | apply pw_below_drewN | apply below_drew1 | refine below_set ?_ (Aside0.out (by assumption))) | exact HB.out))) : w.heap.size ≤ gb357)); have n10_ := Aside0.mk ((by rw [hg]; exact (below_size (by repeat (first | (with_reducible first | exact HB.out | apply below_alloc | apply pw_below_drewN | apply below_drew1 | refine below_set ?_ (Aside0.out (by assumption))) | exact HB.out))) : w.heap.size ≤ gb357)); have n11_ := Aside0.mk ((by rw [hg]; exact Nat.ne_of_lt (blk_lt (g := gb344) (o := .cells #[.int .i64 t332, .slice Ao19 t333.length co19, .slice Ao20 t336.length co20, .slice Ao21 t339.length co21, .int .i64 t342] 25 (0, 0)) (BL BK344.out)) : gb344 ≠ gb357)); have n12_ := Aside0.mk ((by rw [hg]; exact Nat.ne_of_gt (blk_lt (g := gb344) (o := .cells #[.int .i64 t332, .slice Ao19 t333.length co19, .slice Ao20 t336.length co20, .slice Ao21 t339.length co21, .int .i64 t342] 25 (0, 0)) (BL BK344.out)) : gb357 ≠ gb344)); clear HO335; clear HO338; clear HO341; clear HO348; clear HO351; clear HO354; clear BK344; clear HB; have HO335 := n0_; have HO338 := n1_; have HO341 := n2_; have HO348 := n3_; have HO351 := n4_; have HO354 := n5_; have BK344 := n6_; have HB := n7_; have BK357 := n8_; have GW357 := n9_; have GE357 := n10_; have NB344_357 := n11_; have NB357_344 := n12_; clear n0_ n1_ n2_ n3_ n4_ n5_ n6_ n7_ n8_ n9_ n10_ n11_ n12_; clear hb hbox hg; have hnb25 := NB357_344.out; have hnc25 := NB344_357.out; have hcz26_0 : w24.cell? ⟨gb357, 0, none⟩ = some (.int .i64 0) := (blk_cell BK357.out 0).trans rfl; have hcz26_1 : w24.cell? ⟨gb357, 1, none⟩ = some (.slice none 0 0) := (blk_cell BK357.out 1).trans rfl; have hcz26_2 : w24.cell? ⟨gb357, 2, none⟩ = some (.slice none 0 0) := (blk_cell BK357.out 2).trans rfl; have hcz26_3 : w24.cell? ⟨gb357, 3, none⟩ = some (.slice none 0 0) := (blk_cell BK357.out 3).trans rfl; have hcz26_4 : w24.cell? ⟨gb357, 4, none⟩ = some (.int .i64 0) := (blk_cell BK357.out 4).trans rfl; have hfz26_0 := blk_frozen BK357.out 0; have hfz26_1 := blk_frozen BK357.out 1; have hfz26_2 := blk_frozen BK357.out 2; have hfz26_3 := blk_frozen BK357.out 3; have hfz26_4 := blk_frozen BK357.out 4; obtain ⟨Ao27, co27, eo27⟩ := Kd.V_slice HO348.out; subst eo27; obtain ⟨Ao28, co28, eo28⟩ := Kd.V_slice HO351.out; subst eo28; obtain ⟨Ao29, co29, eo29⟩ := Kd.R_slice HO354.out; subst eo29))
      have n0_ : Aside0 (Kd.R (Kd.int .i64) 3 (((((w24.setCell ⟨gb357, 0, none⟩ (.int .i64 t345)).setCell ⟨gb357, 1, none⟩ (.slice Ao27 t346.length co27)).setCell ⟨gb357, 2, none⟩ (.slice Ao28 t349.length co28)).setCell ⟨gb357, 3, none⟩ (.slice Ao29 t352.length co29)).setCell ⟨gb357, 4, none⟩ (.int .i64 t355)) w.heap.size (fun k_ => some k_ ≠ (.slice Ao20 t336.length co20 : Value).ownBlock ∧ some k_ ≠ (.slice Ao21 t339.length co21 : Value).ownBlock ∧ some k_ ≠ (.slice Ao29 t352.length co29 : Value).ownBlock) (.slice Ao19 t333.length co19) t333) := ⟨by apply Kd.RL; exact Kd.R_mono (Kd.R_far (p := ⟨gb357, 4, none⟩) (Kd.R_far (p := ⟨gb357, 3, none⟩) (Kd.R_far (p := ⟨gb357, 2, none⟩) (Kd.R_far (p := ⟨gb357, 1, none⟩) (Kd.R_far (p := ⟨gb357, 0, none⟩) (Kd.R_types HO335.out BK357.out (by decide)) (fun _ hk => hk.2) (.int .i64 t345)) (fun _ hk => hk.2) (.slice Ao27 t346.length co27)) (fun _ hk => hk.2) (.slice Ao28 t349.length co28)) (fun _ hk => hk.2) (.slice Ao29 t352.length co29)) (fun _ hk => hk.2) (.int .i64 t355)) (fun _ hk => ⟨hk.1.1.1, ⟨hk.1.1.2, hk.1.2⟩⟩)⟩
      have n1_ : Aside0 (Kd.R (Kd.int .i64) 3 (((((w24.setCell ⟨gb357, 0, none⟩ (.int .i64 t345)).setCell ⟨gb357, 1, none⟩ (.slice Ao27 t346.length co27)).setCell ⟨gb357, 2, none⟩ (.slice Ao28 t349.length co28)).setCell ⟨gb357, 3, none⟩ (.slice Ao29 t352.length co29)).setCell ⟨gb357, 4, none⟩ (.int .i64 t355)) w.heap.size (fun k_ => some k_ ≠ (.slice Ao19 t333.length co19 : Value).ownBlock ∧ some k_ ≠ (.slice Ao21 t339.length co21 : Value).ownBlock ∧ some k_ ≠ (.slice Ao29 t352.length co29 : Value).ownBlock) (.slice Ao20 t336.length co20) t336) := ⟨by apply Kd.RL; exact Kd.R_mono (Kd.R_far (p := ⟨gb357, 4, none⟩) (Kd.R_far (p := ⟨gb357, 3, none⟩) (Kd.R_far (p := ⟨gb357, 2, none⟩) (Kd.R_far (p := ⟨gb357, 1, none⟩) (Kd.R_far (p := ⟨gb357, 0, none⟩) (Kd.R_types HO338.out BK357.out (by decide)) (fun _ hk => hk.2) (.int .i64 t345)) (fun _ hk => hk.2) (.slice Ao27 t346.length co27)) (fun _ hk => hk.2) (.slice Ao28 t349.length co28)) (fun _ hk => hk.2) (.slice Ao29 t352.length co29)) (fun _ hk => hk.2) (.int .i64 t355)) (fun _ hk => ⟨hk.1.1.1, ⟨hk.1.1.2, hk.1.2⟩⟩)⟩
      have n2_ : Aside0 (Kd.R (Kd.int .i64) 3 (((((w24.setCell ⟨gb357, 0, none⟩ (.int .i64 t345)).setCell ⟨gb357, 1, none⟩ (.slice Ao27 t346.length co27)).setCell ⟨gb357, 2, none⟩ (.slice Ao28 t349.length co28)).setCell ⟨gb357, 3, none⟩ (.slice Ao29 t352.length co29)).setCell ⟨gb357, 4, none⟩ (.int .i64 t355)) w.heap.size (fun k_ => some k_ ≠ (.slice Ao19 t333.length co19 : Value).ownBlock ∧ some k_ ≠ (.slice Ao20 t336.length co20 : Value).ownBlock ∧ some k_ ≠ (.slice Ao29 t352.length co29 : Value).ownBlock) (.slice Ao21 t339.length co21) t339) := ⟨by apply Kd.RL; exact Kd.R_mono (Kd.R_far (p := ⟨gb357, 4, none⟩) (Kd.R_far (p := ⟨gb357, 3, none⟩) (Kd.R_far (p := ⟨gb357, 2, none⟩) (Kd.R_far (p := ⟨gb357, 1, none⟩) (Kd.R_far (p := ⟨gb357, 0, none⟩) (Kd.R_types HO341.out BK357.out (by decide)) (fun _ hk => hk.2) (.int .i64 t345)) (fun _ hk => hk.2) (.slice Ao27 t346.length co27)) (fun _ hk => hk.2) (.slice Ao28 t349.length co28)) (fun _ hk => hk.2) (.slice Ao29 t352.length co29)) (fun _ hk => hk.2) (.int .i64 t355)) (fun _ hk => ⟨hk.1.1.1, ⟨hk.1.1.2, hk.1.2⟩⟩)⟩
      have n3_ : Aside0 (Kd.V (Kd.int .i64) 3 (((((w24.setCell ⟨gb357, 0, none⟩ (.int .i64 t345)).setCell ⟨gb357, 1, none⟩ (.slice Ao27 t346.length co27)).setCell ⟨gb357, 2, none⟩ (.slice Ao28 t349.length co28)).setCell ⟨gb357, 3, none⟩ (.slice Ao29 t352.length co29)).setCell ⟨gb357, 4, none⟩ (.int .i64 t355)) w.heap.size (fun k_ => some k_ ≠ (.slice Ao19 t333.length co19 : Value).ownBlock ∧ some k_ ≠ (.slice Ao20 t336.length co20 : Value).ownBlock ∧ some k_ ≠ (.slice Ao21 t339.length co21 : Value).ownBlock ∧ some k_ ≠ (.slice Ao29 t352.length co29 : Value).ownBlock ∧ k_ ≠ gb344 ∧ k_ ≠ gb357) (.slice Ao27 t346.length co27) t346) := ⟨by apply Kd.VL; exact Kd.V_mono (Kd.V_far (p := ⟨gb357, 4, none⟩) (Kd.V_far (p := ⟨gb357, 3, none⟩) (Kd.V_far (p := ⟨gb357, 2, none⟩) (Kd.V_far (p := ⟨gb357, 1, none⟩) (Kd.V_far (p := ⟨gb357, 0, none⟩) (Kd.V_mono HO348.out (fun k_ hk => (⟨hk, hk.2⟩ : _ ∧ k_ ≠ gb357))) (fun _ hk => hk.2) (.int .i64 t345)) (fun _ hk => hk.2) (.slice Ao27 t346.length co27)) (fun _ hk => hk.2) (.slice Ao28 t349.length co28)) (fun _ hk => hk.2) (.slice Ao29 t352.length co29)) (fun _ hk => hk.2) (.int .i64 t355)) (fun _ hk => ⟨hk.1.1.2.1, ⟨hk.1.1.2.2.1, ⟨hk.1.1.2.2.2.1, ⟨hk.1.1.1, ⟨hk.1.1.2.2.2.2, hk.1.2⟩⟩⟩⟩⟩)⟩
      have n4_ : Aside0 (Kd.V (Kd.int .i64) 3 (((((w24.setCell ⟨gb357, 0, none⟩ (.int .i64 t345)).setCell ⟨gb357, 1, none⟩ (.slice Ao27 t346.length co27)).setCell ⟨gb357, 2, none⟩ (.slice Ao28 t349.length co28)).setCell ⟨gb357, 3, none⟩ (.slice Ao29 t352.length co29)).setCell ⟨gb357, 4, none⟩ (.int .i64 t355)) w.heap.size (fun k_ => some k_ ≠ (.slice Ao19 t333.length co19 : Value).ownBlock ∧ some k_ ≠ (.slice Ao20 t336.length co20 : Value).ownBlock ∧ some k_ ≠ (.slice Ao21 t339.length co21 : Value).ownBlock ∧ some k_ ≠ (.slice Ao29 t352.length co29 : Value).ownBlock ∧ k_ ≠ gb344 ∧ k_ ≠ gb357) (.slice Ao28 t349.length co28) t349) := ⟨by apply Kd.VL; exact Kd.V_mono (Kd.V_far (p := ⟨gb357, 4, none⟩) (Kd.V_far (p := ⟨gb357, 3, none⟩) (Kd.V_far (p := ⟨gb357, 2, none⟩) (Kd.V_far (p := ⟨gb357, 1, none⟩) (Kd.V_far (p := ⟨gb357, 0, none⟩) (Kd.V_mono HO351.out (fun k_ hk => (⟨hk, hk.2⟩ : _ ∧ k_ ≠ gb357))) (fun _ hk => hk.2) (.int .i64 t345)) (fun _ hk => hk.2) (.slice Ao27 t346.length co27)) (fun _ hk => hk.2) (.slice Ao28 t349.length co28)) (fun _ hk => hk.2) (.slice Ao29 t352.length co29)) (fun _ hk => hk.2) (.int .i64 t355)) (fun _ hk => ⟨hk.1.1.2.1, ⟨hk.1.1.2.2.1, ⟨hk.1.1.2.2.2.1, ⟨hk.1.1.1, ⟨hk.1.1.2.2.2.2, hk.1.2⟩⟩⟩⟩⟩)⟩
      have n5_ : Aside0 (Kd.R (Kd.int .i64) 3 (((((w24.setCell ⟨gb357, 0, none⟩ (.int .i64 t345)).setCell ⟨gb357, 1, none⟩ (.slice Ao27 t346.length co27)).setCell ⟨gb357, 2, none⟩ (.slice Ao28 t349.length co28)).setCell ⟨gb357, 3, none⟩ (.slice Ao29 t352.length co29)).setCell ⟨gb357, 4, none⟩ (.int .i64 t355)) w.heap.size (fun k_ => some k_ ≠ (.slice Ao19 t333.length co19 : Value).ownBlock ∧ some k_ ≠ (.slice Ao20 t336.length co20 : Value).ownBlock ∧ some k_ ≠ (.slice Ao21 t339.length co21 : Value).ownBlock) (.slice Ao29 t352.length co29) t352) := ⟨by apply Kd.RL; exact Kd.R_mono (Kd.R_far (p := ⟨gb357, 4, none⟩) (Kd.R_far (p := ⟨gb357, 3, none⟩) (Kd.R_far (p := ⟨gb357, 2, none⟩) (Kd.R_far (p := ⟨gb357, 1, none⟩) (Kd.R_far (p := ⟨gb357, 0, none⟩) (Kd.R_types HO354.out BK357.out (by decide)) (fun _ hk => hk.2) (.int .i64 t345)) (fun _ hk => hk.2) (.slice Ao27 t346.length co27)) (fun _ hk => hk.2) (.slice Ao28 t349.length co28)) (fun _ hk => hk.2) (.slice Ao29 t352.length co29)) (fun _ hk => hk.2) (.int .i64 t355)) (fun _ hk => ⟨hk.1.1.1.2, ⟨hk.1.1.2, hk.1.2⟩⟩)⟩
      have n6_ : Aside0 ((((((w24.setCell ⟨gb357, 0, none⟩ (.int .i64 t345)).setCell ⟨gb357, 1, none⟩ (.slice Ao27 t346.length co27)).setCell ⟨gb357, 2, none⟩ (.slice Ao28 t349.length co28)).setCell ⟨gb357, 3, none⟩ (.slice Ao29 t352.length co29)).setCell ⟨gb357, 4, none⟩ (.int .i64 t355)).heap[gb344]? = some (.cells #[.int .i64 t332, .slice Ao19 t333.length co19, .slice Ao20 t336.length co20, .slice Ao21 t339.length co21, .int .i64 t342] 25 (0, 0))) := ⟨by apply BL; refine blk_far ?_ NB344_357.out _; apply BL; refine blk_far ?_ NB344_357.out _; apply BL; refine blk_far ?_ NB344_357.out _; apply BL; refine blk_far ?_ NB344_357.out _; apply BL; refine blk_far ?_ NB344_357.out _; apply BL; exact BK344.out⟩
      have n7_ : Aside0 ((((((w24.setCell ⟨gb357, 0, none⟩ (.int .i64 t345)).setCell ⟨gb357, 1, none⟩ (.slice Ao27 t346.length co27)).setCell ⟨gb357, 2, none⟩ (.slice Ao28 t349.length co28)).setCell ⟨gb357, 3, none⟩ (.slice Ao29 t352.length co29)).setCell ⟨gb357, 4, none⟩ (.int .i64 t355)).heap[gb357]? = some (.cells #[.int .i64 t345, .slice Ao27 t346.length co27, .slice Ao28 t349.length co28, .slice Ao29 t352.length co29, .int .i64 t355] 29 (0, 0))) := ⟨by apply BL; refine blk_put (cs := #[.int .i64 t345, .slice Ao27 t346.length co27, .slice Ao28 t349.length co28, .slice Ao29 t352.length co29, .int .i64 0]) ?_ 4 _ rfl; apply BL; refine blk_put (cs := #[.int .i64 t345, .slice Ao27 t346.length co27, .slice Ao28 t349.length co28, .slice none 0 0, .int .i64 0]) ?_ 3 _ rfl; apply BL; refine blk_put (cs := #[.int .i64 t345, .slice Ao27 t346.length co27, .slice none 0 0, .slice none 0 0, .int .i64 0]) ?_ 2 _ rfl; apply BL; refine blk_put (cs := #[.int .i64 t345, .slice none 0 0, .slice none 0 0, .slice none 0 0, .int .i64 0]) ?_ 1 _ rfl; apply BL; refine blk_put (cs := #[.int .i64 0, .slice none 0 0, .slice none 0 0, .slice none 0 0, .int .i64 0]) ?_ 0 _ rfl; apply BL; exact BK357.out⟩
      have n8_ : Aside0 (Below w.heap.size w (((((w24.setCell ⟨gb357, 0, none⟩ (.int .i64 t345)).setCell ⟨gb357, 1, none⟩ (.slice Ao27 t346.length co27)).setCell ⟨gb357, 2, none⟩ (.slice Ao28 t349.length co28)).setCell ⟨gb357, 3, none⟩ (.slice Ao29 t352.length co29)).setCell ⟨gb357, 4, none⟩ (.int .i64 t355))) := ⟨by repeat (first | (with_reducible first | exact HB.out | apply below_alloc | apply pw_below_drewN | apply below_drew1 | refine below_set ?_ (Aside0.out (by assumption))) | exact HB.out)⟩
      (try clear HO335)
      (try clear HO338)
      (try clear HO341)
      (try clear HO348)
      (try clear HO351)
      (try clear HO354)
      (try clear BK344)
      (try clear BK357)
      (try clear HB)
      generalize (((((w24.setCell ⟨gb357, 0, none⟩ (.int .i64 t345)).setCell ⟨gb357, 1, none⟩ (.slice Ao27 t346.length co27)).setCell ⟨gb357, 2, none⟩ (.slice Ao28 t349.length co28)).setCell ⟨gb357, 3, none⟩ (.slice Ao29 t352.length co29)).setCell ⟨gb357, 4, none⟩ (.int .i64 t355)) = w30 at n0_ n1_ n2_ n3_ n4_ n5_ n6_ n7_ n8_ ⊢
      have HO335 := n0_
      have HO338 := n1_
      have HO341 := n2_
      have HO348 := n3_
      have HO351 := n4_
      have HO354 := n5_
      have BK344 := n6_
      have BK357 := n7_
      have HB := n8_
      clear n0_ n1_ n2_ n3_ n4_ n5_ n6_ n7_ n8_
      have n0_ := Aside0.mk (Kd.R_drew HO335.out)
      have n1_ := Aside0.mk (Kd.R_drew HO338.out)
      have n2_ := Aside0.mk (Kd.R_drew HO341.out)
      have n3_ := Aside0.mk (Kd.V_drew HO348.out)
      have n4_ := Aside0.mk (Kd.V_drew HO351.out)
      have n5_ := Aside0.mk (Kd.R_drew HO354.out)
      have n6_ := Aside0.mk (blk_drew BK344.out)
      have n7_ := Aside0.mk (blk_drew BK357.out)
      have n8_ := Aside0.mk (below_drew1 HB.out)
      clear HO335
      clear HO338
      clear HO341
      clear HO348
      clear HO351
      clear HO354
      clear BK344
      clear BK357
      clear HB
      have HO335 := n0_
      have HO338 := n1_
      have HO341 := n2_
      have HO348 := n3_
      have HO351 := n4_
      have HO354 := n5_
      have BK344 := n6_
      have BK357 := n7_
      have HB := n8_
      clear n0_ n1_ n2_ n3_ n4_ n5_ n6_ n7_ n8_
      refine start_ (n := 13) (S := fun w' => w'.cell? ⟨gb344, 0, none⟩ = some (.int .i64 t332) ∧ w'.cell? ⟨gb344, 1, none⟩ = some (.slice Ao19 t333.length co19) ∧ w'.cell? ⟨gb344, 2, none⟩ = some (.slice Ao20 t336.length co20) ∧ w'.cell? ⟨gb344, 3, none⟩ = some (.slice Ao21 t339.length co21) ∧ w'.cell? ⟨gb344, 4, none⟩ = some (.int .i64 t342) ∧ w'.cell? ⟨gb357, 0, none⟩ = some (.int .i64 t345) ∧ w'.cell? ⟨gb357, 1, none⟩ = some (.slice Ao27 t346.length co27) ∧ w'.cell? ⟨gb357, 2, none⟩ = some (.slice Ao28 t349.length co28) ∧ w'.cell? ⟨gb357, 3, none⟩ = some (.slice Ao29 t352.length co29) ∧ w'.cell? ⟨gb357, 4, none⟩ = some (.int .i64 t355)) (ds := []) #[false, false, false, false, false, false, false, false, false, false, false, false, false] (by kernel_rfl) rfl rfl ⟨(blk_cell BK344.out 0).trans rfl, (blk_cell BK344.out 1).trans rfl, (blk_cell BK344.out 2).trans rfl, (blk_cell BK344.out 3).trans rfl, (blk_cell BK344.out 4).trans rfl, (blk_cell BK357.out 0).trans rfl, (blk_cell BK357.out 1).trans rfl, (blk_cell BK357.out 2).trans rfl, (blk_cell BK357.out 3).trans rfl, (blk_cell BK357.out 4).trans rfl⟩ (fun hHeld => ?_); refine with_tabW haywainlaw18_MoveBegins.tab5 haywainlaw18_MoveBegins.bits5 (fun HT_ HW_ => ?_)
      generalize w30.drew = w31 at HO335 HO338 HO341 HO348 HO351 HO354 BK344 BK357 HB hHeld ⊢
      refine take_ (i := 0) (N := some 34) (v := ?_) (a' := ?_) #[true, false, false, false, false, false, false, false, false, false, false, false, false] rfl rfl (take_ofW HT_.out HW_.out (by kernel_rfl)) (fun _ _ _ h => h) (Or.inl ⟨by rfl, ?_⟩) hHeld ?_ ?_
      rotate_left
      ·rintro w' ⟨s0, s1, s2, s3, s4, s5, s6, s7, s8, s9⟩
       go_simp
       with_reducible rfl
      rotate_left
      ·simp only [Act.put, List.setIfInBounds_toArray, List.set_cons_zero, List.set_cons_succ, i64_w, i32_w]
       rfl
      refine take_ (i := 2) (N := some 36) (v := ?_) (a' := ?_) #[true, false, true, false, false, false, false, false, false, false, false, false, false] rfl rfl (take_ofW HT_.out HW_.out (by kernel_rfl)) (fun _ _ _ h => h) (Or.inl ⟨by rfl, ?_⟩) hHeld ?_ ?_
      rotate_left
      ·rintro w' ⟨s0, s1, s2, s3, s4, s5, s6, s7, s8, s9⟩
       go_simp
       with_reducible rfl
      rotate_left
      ·simp only [Act.put, List.setIfInBounds_toArray, List.set_cons_zero, List.set_cons_succ, i64_w, i32_w]
       rfl
      refine one_ (i := 1) (N := some 35) #[true, true, true, false, false, false, false, false, false, false, false, false, false] rfl rfl (one_of HT_.out (by kernel_rfl)) (by decide) (fun K hK => ?_)
      refine goes_ Try.func10 (by kernel_rfl) rfl #[.agg #[.int .i64 t332, .slice Ao19 t333.length co19, .slice Ao20 t336.length co20, .slice Ao21 t339.length co21, .int .i64 t342]] (by rfl) rfl rfl (by (try simp only [List.map_toArray, List.map_cons, List.map_nil]); first | done | rfl | (simp only [List.length_drop, List.length_take]; rfl)) ?_
      with_reducible refine (haywainlaw18_as.calls t332 (fun k_ => some k_ = (.slice Ao19 t333.length co19 : Value).ownBlock) _ _ t333 (fun k_ => some k_ = (.slice Ao20 t336.length co20 : Value).ownBlock) _ _ t336 (fun k_ => some k_ = (.slice Ao21 t339.length co21 : Value).ownBlock) _ _ t339 t342 t358 t359 t362 t365 t368 _ ?side1 ?side2 ?side3 A11.out).mono ?_
      (case side1 => exact Kd.R_V (Kd.R_tight rfl (Kd.R_types (Kd.R_types (HO335.out) BK344.out (by decide)) BK357.out (by decide))))
      (case side2 => exact Kd.R_V (Kd.R_tight rfl (Kd.R_types (Kd.R_types (HO338.out) BK344.out (by decide)) BK357.out (by decide))))
      (case side3 => exact Kd.R_V (Kd.R_tight rfl (Kd.R_types (Kd.R_types (HO341.out) BK344.out (by decide)) BK357.out (by decide))))
      rintro e w32 ⟨v360, v363, v366, rfl, ho0, ho1, ho2, hb⟩
      refine ⟨_, rfl, ?_⟩
      have n0_ := Aside0.mk (Kd.R_below (Kd.RL HO335.out) hb)
      have n1_ := Aside0.mk (Kd.R_below (Kd.RL HO338.out) hb)
      have n2_ := Aside0.mk (Kd.R_below (Kd.RL HO341.out) hb)
      have n3_ := Aside0.mk (Kd.V_below (Kd.VL HO348.out) hb)
      have n4_ := Aside0.mk (Kd.V_below (Kd.VL HO351.out) hb)
      have n5_ := Aside0.mk (Kd.R_below (Kd.RL HO354.out) hb)
      have n6_ := Aside0.mk (Kd.V_lower (Kd.V_mono (ok' := fun k_ => some k_ ≠ (.slice Ao29 t352.length co29 : Value).ownBlock ∧ k_ ≠ gb344 ∧ k_ ≠ gb357) ho0 (fun k_ hk_ => ⟨Or.elim hk_ (fun hs_ => Or.elim hs_ (fun hs_ => ((Kd.R_types (Kd.R_types (HO335.out) BK344.out (by decide)) BK357.out (by decide)).1 k_ hs_.symm).1.1.2.2) (fun hs_ => Or.elim hs_ (fun hs_ => ((Kd.R_types (Kd.R_types (HO338.out) BK344.out (by decide)) BK357.out (by decide)).1 k_ hs_.symm).1.1.2.2) (fun hs_ => ((Kd.R_types (Kd.R_types (HO341.out) BK344.out (by decide)) BK357.out (by decide)).1 k_ hs_.symm).1.1.2.2))) (fun hn_ => (Kd.fresh' (Kd.R_lt (Kd.RL HO354.out)) k_ hn_)), Or.elim hk_ (fun hs_ => Or.elim hs_ (fun hs_ => ((Kd.R_types (Kd.R_types (HO335.out) BK344.out (by decide)) BK357.out (by decide)).1 k_ hs_.symm).1.2) (fun hs_ => Or.elim hs_ (fun hs_ => ((Kd.R_types (Kd.R_types (HO338.out) BK344.out (by decide)) BK357.out (by decide)).1 k_ hs_.symm).1.2) (fun hs_ => ((Kd.R_types (Kd.R_types (HO341.out) BK344.out (by decide)) BK357.out (by decide)).1 k_ hs_.symm).1.2))) (fun hn_ => (Kd.freshB (g := gb344) (o := .cells #[.int .i64 t332, .slice Ao19 t333.length co19, .slice Ao20 t336.length co20, .slice Ao21 t339.length co21, .int .i64 t342] 25 (0, 0)) (BL BK344.out) k_ hn_)), Or.elim hk_ (fun hs_ => Or.elim hs_ (fun hs_ => ((Kd.R_types (Kd.R_types (HO335.out) BK344.out (by decide)) BK357.out (by decide)).1 k_ hs_.symm).2) (fun hs_ => Or.elim hs_ (fun hs_ => ((Kd.R_types (Kd.R_types (HO338.out) BK344.out (by decide)) BK357.out (by decide)).1 k_ hs_.symm).2) (fun hs_ => ((Kd.R_types (Kd.R_types (HO341.out) BK344.out (by decide)) BK357.out (by decide)).1 k_ hs_.symm).2))) (fun hn_ => (Kd.freshB (g := gb357) (o := .cells #[.int .i64 t345, .slice Ao27 t346.length co27, .slice Ao28 t349.length co28, .slice Ao29 t352.length co29, .int .i64 t355] 29 (0, 0)) (BL BK357.out) k_ hn_))⟩)) (below_size (by repeat (first | (with_reducible first | exact HB.out | apply below_alloc | apply pw_below_drewN | apply below_drew1 | refine below_set ?_ (Aside0.out (by assumption))) | exact HB.out))))
      have n7_ := Aside0.mk (Kd.V_lower (Kd.V_mono (ok' := fun k_ => some k_ ≠ (.slice Ao29 t352.length co29 : Value).ownBlock ∧ k_ ≠ gb344 ∧ k_ ≠ gb357) ho1 (fun k_ hk_ => ⟨Or.elim hk_ (fun hs_ => Or.elim hs_ (fun hs_ => ((Kd.R_types (Kd.R_types (HO335.out) BK344.out (by decide)) BK357.out (by decide)).1 k_ hs_.symm).1.1.2.2) (fun hs_ => Or.elim hs_ (fun hs_ => ((Kd.R_types (Kd.R_types (HO338.out) BK344.out (by decide)) BK357.out (by decide)).1 k_ hs_.symm).1.1.2.2) (fun hs_ => ((Kd.R_types (Kd.R_types (HO341.out) BK344.out (by decide)) BK357.out (by decide)).1 k_ hs_.symm).1.1.2.2))) (fun hn_ => (Kd.fresh' (Kd.R_lt (Kd.RL HO354.out)) k_ hn_)), Or.elim hk_ (fun hs_ => Or.elim hs_ (fun hs_ => ((Kd.R_types (Kd.R_types (HO335.out) BK344.out (by decide)) BK357.out (by decide)).1 k_ hs_.symm).1.2) (fun hs_ => Or.elim hs_ (fun hs_ => ((Kd.R_types (Kd.R_types (HO338.out) BK344.out (by decide)) BK357.out (by decide)).1 k_ hs_.symm).1.2) (fun hs_ => ((Kd.R_types (Kd.R_types (HO341.out) BK344.out (by decide)) BK357.out (by decide)).1 k_ hs_.symm).1.2))) (fun hn_ => (Kd.freshB (g := gb344) (o := .cells #[.int .i64 t332, .slice Ao19 t333.length co19, .slice Ao20 t336.length co20, .slice Ao21 t339.length co21, .int .i64 t342] 25 (0, 0)) (BL BK344.out) k_ hn_)), Or.elim hk_ (fun hs_ => Or.elim hs_ (fun hs_ => ((Kd.R_types (Kd.R_types (HO335.out) BK344.out (by decide)) BK357.out (by decide)).1 k_ hs_.symm).2) (fun hs_ => Or.elim hs_ (fun hs_ => ((Kd.R_types (Kd.R_types (HO338.out) BK344.out (by decide)) BK357.out (by decide)).1 k_ hs_.symm).2) (fun hs_ => ((Kd.R_types (Kd.R_types (HO341.out) BK344.out (by decide)) BK357.out (by decide)).1 k_ hs_.symm).2))) (fun hn_ => (Kd.freshB (g := gb357) (o := .cells #[.int .i64 t345, .slice Ao27 t346.length co27, .slice Ao28 t349.length co28, .slice Ao29 t352.length co29, .int .i64 t355] 29 (0, 0)) (BL BK357.out) k_ hn_))⟩)) (below_size (by repeat (first | (with_reducible first | exact HB.out | apply below_alloc | apply pw_below_drewN | apply below_drew1 | refine below_set ?_ (Aside0.out (by assumption))) | exact HB.out))))
      have n8_ := Aside0.mk (Kd.V_lower (Kd.V_mono (ok' := fun k_ => some k_ ≠ (.slice Ao29 t352.length co29 : Value).ownBlock ∧ k_ ≠ gb344 ∧ k_ ≠ gb357) ho2 (fun k_ hk_ => ⟨Or.elim hk_ (fun hs_ => Or.elim hs_ (fun hs_ => ((Kd.R_types (Kd.R_types (HO335.out) BK344.out (by decide)) BK357.out (by decide)).1 k_ hs_.symm).1.1.2.2) (fun hs_ => Or.elim hs_ (fun hs_ => ((Kd.R_types (Kd.R_types (HO338.out) BK344.out (by decide)) BK357.out (by decide)).1 k_ hs_.symm).1.1.2.2) (fun hs_ => ((Kd.R_types (Kd.R_types (HO341.out) BK344.out (by decide)) BK357.out (by decide)).1 k_ hs_.symm).1.1.2.2))) (fun hn_ => (Kd.fresh' (Kd.R_lt (Kd.RL HO354.out)) k_ hn_)), Or.elim hk_ (fun hs_ => Or.elim hs_ (fun hs_ => ((Kd.R_types (Kd.R_types (HO335.out) BK344.out (by decide)) BK357.out (by decide)).1 k_ hs_.symm).1.2) (fun hs_ => Or.elim hs_ (fun hs_ => ((Kd.R_types (Kd.R_types (HO338.out) BK344.out (by decide)) BK357.out (by decide)).1 k_ hs_.symm).1.2) (fun hs_ => ((Kd.R_types (Kd.R_types (HO341.out) BK344.out (by decide)) BK357.out (by decide)).1 k_ hs_.symm).1.2))) (fun hn_ => (Kd.freshB (g := gb344) (o := .cells #[.int .i64 t332, .slice Ao19 t333.length co19, .slice Ao20 t336.length co20, .slice Ao21 t339.length co21, .int .i64 t342] 25 (0, 0)) (BL BK344.out) k_ hn_)), Or.elim hk_ (fun hs_ => Or.elim hs_ (fun hs_ => ((Kd.R_types (Kd.R_types (HO335.out) BK344.out (by decide)) BK357.out (by decide)).1 k_ hs_.symm).2) (fun hs_ => Or.elim hs_ (fun hs_ => ((Kd.R_types (Kd.R_types (HO338.out) BK344.out (by decide)) BK357.out (by decide)).1 k_ hs_.symm).2) (fun hs_ => ((Kd.R_types (Kd.R_types (HO341.out) BK344.out (by decide)) BK357.out (by decide)).1 k_ hs_.symm).2))) (fun hn_ => (Kd.freshB (g := gb357) (o := .cells #[.int .i64 t345, .slice Ao27 t346.length co27, .slice Ao28 t349.length co28, .slice Ao29 t352.length co29, .int .i64 t355] 29 (0, 0)) (BL BK357.out) k_ hn_))⟩)) (below_size (by repeat (first | (with_reducible first | exact HB.out | apply below_alloc | apply pw_below_drewN | apply below_drew1 | refine below_set ?_ (Aside0.out (by assumption))) | exact HB.out))))
      have n9_ := Aside0.mk (blk_below (g := gb344) (o := .cells #[.int .i64 t332, .slice Ao19 t333.length co19, .slice Ao20 t336.length co20, .slice Ao21 t339.length co21, .int .i64 t342] 25 (0, 0)) (BL BK344.out) hb)
      have n10_ := Aside0.mk (blk_below (g := gb357) (o := .cells #[.int .i64 t345, .slice Ao27 t346.length co27, .slice Ao28 t349.length co28, .slice Ao29 t352.length co29, .int .i64 t355] 29 (0, 0)) (BL BK357.out) hb)
      have n11_ := Aside0.mk (below_step (by repeat (first | (with_reducible first | exact HB.out | apply below_alloc | apply pw_below_drewN | apply below_drew1 | refine below_set ?_ (Aside0.out (by assumption))) | exact HB.out)) hb)
      clear HO335
      clear HO338
      clear HO341
      clear HO348
      clear HO351
      clear HO354
      clear BK344
      clear BK357
      clear HB
      have HO335 := n0_
      have HO338 := n1_
      have HO341 := n2_
      have HO348 := n3_
      have HO351 := n4_
      have HO354 := n5_
      have HO361 := n6_
      have HO364 := n7_
      have HO367 := n8_
      have BK344 := n9_
      have BK357 := n10_
      have HB := n11_
      clear n0_ n1_ n2_ n3_ n4_ n5_ n6_ n7_ n8_ n9_ n10_ n11_
      (try clear hb)
      (try clear hb2)
      (try clear hk)
      (try clear hi)
      (try clear ho0)
      (try clear ho1)
      (try clear ho2)
      obtain ⟨Ao33, co33, eo33⟩ := Kd.V_slice HO361.out
      (first | subst eo33 | (injection eo33 with f1_ f2_ f3_; have f4_ := f1_.symm; have f5_ := f3_.symm; clear f1_ f2_ f3_; subst f4_; subst f5_))
      obtain ⟨Ao34, co34, eo34⟩ := Kd.V_slice HO364.out
      (first | subst eo34 | (injection eo34 with f1_ f2_ f3_; have f4_ := f1_.symm; have f5_ := f3_.symm; clear f1_ f2_ f3_; subst f4_; subst f5_))
      obtain ⟨Ao35, co35, eo35⟩ := Kd.V_slice HO367.out
      (first | subst eo35 | (injection eo35 with f1_ f2_ f3_; have f4_ := f1_.symm; have f5_ := f3_.symm; clear f1_ f2_ f3_; subst f4_; subst f5_))
      refine hK.out _ _ ⟨(blk_cell BK344.out 0).trans rfl, (blk_cell BK344.out 1).trans rfl, (blk_cell BK344.out 2).trans rfl, (blk_cell BK344.out 3).trans rfl, (blk_cell BK344.out 4).trans rfl, (blk_cell BK357.out 0).trans rfl, (blk_cell BK357.out 1).trans rfl, (blk_cell BK357.out 2).trans rfl, (blk_cell BK357.out 3).trans rfl, (blk_cell BK357.out 4).trans rfl⟩ (fun hHeld => ?_)
      clear hK K
      refine norm_ (a' := ?_) ?_ ?_
      rotate_left
      ·show Act.put _ (some 35) _ = _
       simp only [Act.put, List.setIfInBounds_toArray, List.set_cons_zero, List.set_cons_succ, i64_w, i32_w]
       rfl
      refine one_ (i := 3) (N := some 37) #[true, true, true, true, false, false, false, false, false, false, false, false, false] rfl rfl (one_of HT_.out (by kernel_rfl)) (by decide) (fun K hK => ?_)
      refine goes_ Try.func9 (by kernel_rfl) rfl #[.agg #[.int .i64 t358, .slice Ao33 t359.length co33, .slice Ao34 t362.length co34, .slice Ao35 t365.length co35, .int .i64 t368], .agg #[.int .i64 t345, .slice Ao27 t346.length co27, .slice Ao28 t349.length co28, .slice Ao29 t352.length co29, .int .i64 t355]] (by rfl) rfl rfl (by (try simp only [List.map_toArray, List.map_cons, List.map_nil]); first | done | rfl | (simp only [List.length_drop, List.length_take]; rfl)) ?_
      with_reducible refine (haywainref18_Same.calls kj3 t358 _ _ t359 _ _ t362 _ _ t365 t368 t345 _ _ t346 _ _ t349 _ _ t352 t355 true _ ?side1 ?side2 ?side3 ?side4 ?side5 ?side6 ?side7 ?side8 ?side9 ?side10 ?side11 ?side12 A12.out).mono ?_
      (case side1 => repeat (first | exact (Kd.V_reads' HO361.out).2.2 | (with_reducible refine Kd.C_alloc ?_ _) | (with_reducible refine Kd.C_drewN ?_ _) | (with_reducible refine Kd.C_drew ?_)))
      (case side2 => exact (Kd.V_reads' HO361.out).2.1)
      (case side3 => repeat (first | exact (Kd.V_reads' HO364.out).2.2 | (with_reducible refine Kd.C_alloc ?_ _) | (with_reducible refine Kd.C_drewN ?_ _) | (with_reducible refine Kd.C_drew ?_)))
      (case side4 => exact (Kd.V_reads' HO364.out).2.1)
      (case side5 => repeat (first | exact (Kd.V_reads' HO367.out).2.2 | (with_reducible refine Kd.C_alloc ?_ _) | (with_reducible refine Kd.C_drewN ?_ _) | (with_reducible refine Kd.C_drew ?_)))
      (case side6 => exact (Kd.V_reads' HO367.out).2.1)
      (case side7 => repeat (first | exact (Kd.V_reads' HO348.out).2.2 | (with_reducible refine Kd.C_alloc ?_ _) | (with_reducible refine Kd.C_drewN ?_ _) | (with_reducible refine Kd.C_drew ?_)))
      (case side8 => exact (Kd.V_reads' HO348.out).2.1)
      (case side9 => repeat (first | exact (Kd.V_reads' HO351.out).2.2 | (with_reducible refine Kd.C_alloc ?_ _) | (with_reducible refine Kd.C_drewN ?_ _) | (with_reducible refine Kd.C_drew ?_)))
      (case side10 => exact (Kd.V_reads' HO351.out).2.1)
      (case side11 => repeat (first | exact (Kd.R_reads' HO354.out).2.2 | (with_reducible refine Kd.C_alloc ?_ _) | (with_reducible refine Kd.C_drewN ?_ _) | (with_reducible refine Kd.C_drew ?_)))
      (case side12 => exact (Kd.R_reads' HO354.out).2.1)
      rintro e w36 ⟨rfl, hb⟩
      refine ⟨_, rfl, ?_⟩
      have n0_ := Aside0.mk (Kd.R_below (Kd.RL HO335.out) hb)
      have n1_ := Aside0.mk (Kd.R_below (Kd.RL HO338.out) hb)
      have n2_ := Aside0.mk (Kd.R_below (Kd.RL HO341.out) hb)
      have n3_ := Aside0.mk (Kd.V_below (Kd.VL HO348.out) hb)
      have n4_ := Aside0.mk (Kd.V_below (Kd.VL HO351.out) hb)
      have n5_ := Aside0.mk (Kd.R_below (Kd.RL HO354.out) hb)
      have n6_ := Aside0.mk (Kd.V_below (Kd.VL HO361.out) hb)
      have n7_ := Aside0.mk (Kd.V_below (Kd.VL HO364.out) hb)
      have n8_ := Aside0.mk (Kd.V_below (Kd.VL HO367.out) hb)
      have n9_ := Aside0.mk (blk_below (g := gb344) (o := .cells #[.int .i64 t332, .slice Ao19 t333.length co19, .slice Ao20 t336.length co20, .slice Ao21 t339.length co21, .int .i64 t342] 25 (0, 0)) (BL BK344.out) hb)
      have n10_ := Aside0.mk (blk_below (g := gb357) (o := .cells #[.int .i64 t345, .slice Ao27 t346.length co27, .slice Ao28 t349.length co28, .slice Ao29 t352.length co29, .int .i64 t355] 29 (0, 0)) (BL BK357.out) hb)
      have n11_ := Aside0.mk (below_step (by repeat (first | (with_reducible first | exact HB.out | apply below_alloc | apply pw_below_drewN | apply below_drew1 | refine below_set ?_ (Aside0.out (by assumption))) | exact HB.out)) hb)
      clear HO335
      clear HO338
      clear HO341
      clear HO348
      clear HO351
      clear HO354
      clear HO361
      clear HO364
      clear HO367
      clear BK344
      clear BK357
      clear HB
      have HO335 := n0_
      have HO338 := n1_
      have HO341 := n2_
      have HO348 := n3_
      have HO351 := n4_
      have HO354 := n5_
      have HO361 := n6_
      have HO364 := n7_
      have HO367 := n8_
      have BK344 := n9_
      have BK357 := n10_
      have HB := n11_
      clear n0_ n1_ n2_ n3_ n4_ n5_ n6_ n7_ n8_ n9_ n10_ n11_
      (try clear hb)
      (try clear hb2)
      (try clear hk)
      (try clear hi)
      refine hK.out _ _ ⟨(blk_cell BK344.out 0).trans rfl, (blk_cell BK344.out 1).trans rfl, (blk_cell BK344.out 2).trans rfl, (blk_cell BK344.out 3).trans rfl, (blk_cell BK344.out 4).trans rfl, (blk_cell BK357.out 0).trans rfl, (blk_cell BK357.out 1).trans rfl, (blk_cell BK357.out 2).trans rfl, (blk_cell BK357.out 3).trans rfl, (blk_cell BK357.out 4).trans rfl⟩ (fun hHeld => ?_)
      clear hK K
      refine norm_ (a' := ?_) ?_ ?_
      rotate_left
      ·show Act.put _ (some 37) _ = _
       simp only [Act.put, List.setIfInBounds_toArray, List.set_cons_zero, List.set_cons_succ, i64_w, i32_w]
       rfl
      refine pure_ (i := 4) (N := some 38) (v := ?_) (a' := ?_) #[true, true, true, true, true, false, false, false, false, false, false, false, false] rfl rfl (any_of HT_.out (by kernel_rfl)) (fun _ _ _ h => h) (Or.inl ⟨by rfl, ?_⟩) ?_ ?_
      rotate_left
      ·intro w'
       go_simp
       with_reducible rfl
      rotate_left
      ·simp only [Act.put, List.setIfInBounds_toArray, List.set_cons_zero, List.set_cons_succ, i64_w, i32_w]
       rfl
      refine pure_ (i := 5) (N := some 39) (v := ?_) (a' := ?_) #[true, true, true, true, true, true, false, false, false, false, false, false, false] rfl rfl (any_of HT_.out (by kernel_rfl)) (fun _ _ _ h => h) (Or.inl ⟨by rfl, ?_⟩) ?_ ?_
      rotate_left
      ·intro w'
       go_simp
       with_reducible rfl
      rotate_left
      ·simp only [Act.put, List.setIfInBounds_toArray, List.set_cons_zero, List.set_cons_succ, i64_w, i32_w]
       rfl
      refine pure_ (i := 6) (N := some 40) (v := ?_) (a' := ?_) #[true, true, true, true, true, true, true, false, false, false, false, false, false] rfl rfl (any_of HT_.out (by kernel_rfl)) (fun _ _ _ h => h) (Or.inl ⟨by rfl, ?_⟩) ?_ ?_
      rotate_left
      ·intro w'
       go_simp
       with_reducible rfl
      rotate_left
      ·simp only [Act.put, List.setIfInBounds_toArray, List.set_cons_zero, List.set_cons_succ, i64_w, i32_w]
       rfl
      refine pure_ (i := 7) (N := some 41) (v := ?_) (a' := ?_) #[true, true, true, true, true, true, true, true, false, false, false, false, false] rfl rfl (any_of HT_.out (by kernel_rfl)) (fun _ _ _ h => h) (Or.inl ⟨by rfl, ?_⟩) ?_ ?_
      rotate_left
      ·intro w'
       go_simp
       with_reducible rfl
      rotate_left
      ·simp only [Act.put, List.setIfInBounds_toArray, List.set_cons_zero, List.set_cons_succ, i64_w, i32_w]
       rfl
      refine pure_ (i := 8) (N := some 42) (v := ?_) (a' := ?_) #[true, true, true, true, true, true, true, true, true, false, false, false, false] rfl rfl (any_of HT_.out (by kernel_rfl)) (fun _ _ _ h => h) (Or.inl ⟨by rfl, ?_⟩) ?_ ?_
      rotate_left
      ·intro w'
       go_simp
       with_reducible rfl
      rotate_left
      ·simp only [Act.put, List.setIfInBounds_toArray, List.set_cons_zero, List.set_cons_succ, i64_w, i32_w]
       rfl
      refine pure_ (i := 9) (N := some 43) (v := ?_) (a' := ?_) #[true, true, true, true, true, true, true, true, true, true, false, false, false] rfl rfl (any_of HT_.out (by kernel_rfl)) (fun _ _ _ h => h) (Or.inl ⟨by rfl, ?_⟩) ?_ ?_
      rotate_left
      ·intro w'
       go_simp
       with_reducible rfl
      rotate_left
      ·simp only [Act.put, List.setIfInBounds_toArray, List.set_cons_zero, List.set_cons_succ, i64_w, i32_w]
       rfl
      refine one_ (i := 10) (N := some 44) #[true, true, true, true, true, true, true, true, true, true, true, false, false] rfl rfl (one_of HT_.out (by kernel_rfl)) (by decide) (fun K hK => ?_)
      refine goes_ Try.func6 (by kernel_rfl) rfl #[] (by rfl) rfl rfl (by (try simp only [List.map_toArray, List.map_cons, List.map_nil]); first | done | rfl | (simp only [List.length_drop, List.length_take]; rfl)) ?_
      with_reducible refine (haywainlaw18_knows.calls kj3  t370 _ A15.out).mono ?_
      rintro e w37 ⟨rfl, hb⟩
      refine ⟨_, rfl, ?_⟩
      have n0_ := Aside0.mk (Kd.R_below (Kd.RL HO335.out) hb)
      have n1_ := Aside0.mk (Kd.R_below (Kd.RL HO338.out) hb)
      have n2_ := Aside0.mk (Kd.R_below (Kd.RL HO341.out) hb)
      have n3_ := Aside0.mk (Kd.V_below (Kd.VL HO348.out) hb)
      have n4_ := Aside0.mk (Kd.V_below (Kd.VL HO351.out) hb)
      have n5_ := Aside0.mk (Kd.R_below (Kd.RL HO354.out) hb)
      have n6_ := Aside0.mk (Kd.V_below (Kd.VL HO361.out) hb)
      have n7_ := Aside0.mk (Kd.V_below (Kd.VL HO364.out) hb)
      have n8_ := Aside0.mk (Kd.V_below (Kd.VL HO367.out) hb)
      have n9_ := Aside0.mk (blk_below (g := gb344) (o := .cells #[.int .i64 t332, .slice Ao19 t333.length co19, .slice Ao20 t336.length co20, .slice Ao21 t339.length co21, .int .i64 t342] 25 (0, 0)) (BL BK344.out) hb)
      have n10_ := Aside0.mk (blk_below (g := gb357) (o := .cells #[.int .i64 t345, .slice Ao27 t346.length co27, .slice Ao28 t349.length co28, .slice Ao29 t352.length co29, .int .i64 t355] 29 (0, 0)) (BL BK357.out) hb)
      have n11_ := Aside0.mk (below_step (by repeat (first | (with_reducible first | exact HB.out | apply below_alloc | apply pw_below_drewN | apply below_drew1 | refine below_set ?_ (Aside0.out (by assumption))) | exact HB.out)) hb)
      clear HO335
      clear HO338
      clear HO341
      clear HO348
      clear HO351
      clear HO354
      clear HO361
      clear HO364
      clear HO367
      clear BK344
      clear BK357
      clear HB
      have HO335 := n0_
      have HO338 := n1_
      have HO341 := n2_
      have HO348 := n3_
      have HO351 := n4_
      have HO354 := n5_
      have HO361 := n6_
      have HO364 := n7_
      have HO367 := n8_
      have BK344 := n9_
      have BK357 := n10_
      have HB := n11_
      clear n0_ n1_ n2_ n3_ n4_ n5_ n6_ n7_ n8_ n9_ n10_ n11_
      (try clear hb)
      (try clear hb2)
      (try clear hk)
      (try clear hi)
      refine hK.out _ _ ⟨(blk_cell BK344.out 0).trans rfl, (blk_cell BK344.out 1).trans rfl, (blk_cell BK344.out 2).trans rfl, (blk_cell BK344.out 3).trans rfl, (blk_cell BK344.out 4).trans rfl, (blk_cell BK357.out 0).trans rfl, (blk_cell BK357.out 1).trans rfl, (blk_cell BK357.out 2).trans rfl, (blk_cell BK357.out 3).trans rfl, (blk_cell BK357.out 4).trans rfl⟩ (fun hHeld => ?_)
      clear hK K
      refine norm_ (a' := ?_) ?_ ?_
      rotate_left
      ·show Act.put _ (some 44) _ = _
       simp only [Act.put, List.setIfInBounds_toArray, List.set_cons_zero, List.set_cons_succ, i64_w, i32_w]
       rfl
      refine pure_ (i := 11) (N := some 45) (v := ?_) (a' := ?_) #[true, true, true, true, true, true, true, true, true, true, true, true, false] rfl rfl (any_of HT_.out (by kernel_rfl)) (fun _ _ _ h => h) (Or.inl ⟨by rfl, ?_⟩) ?_ ?_
      rotate_left
      ·intro w'
       go_simp
       with_reducible rfl
      rotate_left
      ·simp only [Act.put, List.setIfInBounds_toArray, List.set_cons_zero, List.set_cons_succ, i64_w, i32_w]
       rfl
      refine pure_ (i := 12) (N := some 6) (v := ?_) (a' := ?_) #[true, true, true, true, true, true, true, true, true, true, true, true, true] rfl rfl (any_of HT_.out (by kernel_rfl)) (fun _ _ _ h => h) (Or.inl ⟨by rfl, ?_⟩) ?_ ?_
      rotate_left
      ·intro w'
       go_simp
       with_reducible rfl
      rotate_left
      ·simp only [Act.put, List.setIfInBounds_toArray, List.set_cons_zero, List.set_cons_succ, i64_w, i32_w]
       rfl
      refine done_ (done_of HT_.out (by kernel_rfl)) ?_
      try go_wp2
      go_ret
      exact ⟨by first | rfl | (simp [errW_none, errW_some] <;> rfl) | (simp [*, errW_none, errW_some] <;> rfl), by repeat (first | (with_reducible first | exact HB.out | apply below_alloc | apply pw_below_drewN | apply below_drew1 | refine below_set ?_ (Aside0.out (by assumption))) | exact HB.out)⟩
     ·rw [if_neg c14] at H
      exact absurd H (by simp)
    ·replace c13 := Bool.eq_false_iff.mpr c13
     subst c13
     rw [if_neg (show ¬ (false = true) by decide)] at H
     exact absurd H (by simp)

/-- THE ONE PURE STATEMENT of haywainlaw18_MoveBegins: yours. -/
def haywainlaw18_MoveBegins.Pure : Prop := ∀ (a0 : Int) (l1 : List Int) (l2 : List Int), (Lit.int .i64 a0).wf = true → l1.length ≤ maxLen → l1.length * 8 ≤ 140737488351232 → (∀ x ∈ l1, (Lit.int .i64 x).wf = true) → l2.length ≤ maxLen → l2.length * 8 ≤ 140737488351232 → (∀ x ∈ l2, (Lit.int .i64 x).wf = true) → ∃ k, haywainlaw18_MoveBegins.f k a0 l1 l2 = some true
theorem haywainlaw18_MoveBegins.walk (P : haywainlaw18_MoveBegins.Pure) (a0 : Int) (a1 : Option Addr) (len1 cap1 : Nat) (z1 : List Int) (a2 : Option Addr) (len2 cap2 : Nat) (z2 : List Int) (w : World) (w0 : (Lit.int .i64 a0).wf = true) (w1 : (a1 = none ∧ len1 = 0 ∧ cap1 = 0 ∧ z1 = []) ∨ ∃ x, a1 = some x ∧ len1 ≤ cap1 ∧ cap1 ≤ maxLen ∧ z1.length = cap1 ∧ (∀ i, i < z1.length → w.cell? (x.add i) = some (.int .i64 (z1.getD i 0))) ∧ ∀ n ∈ z1, (Lit.int .i64 n).wf = true) (y1 : len1 * 8 ≤ 140737488351232) (w2 : (a2 = none ∧ len2 = 0 ∧ cap2 = 0 ∧ z2 = []) ∨ ∃ x, a2 = some x ∧ len2 ≤ cap2 ∧ cap2 ≤ maxLen ∧ z2.length = cap2 ∧ (∀ i, i < z2.length → w.cell? (x.add i) = some (.int .i64 (z2.getD i 0))) ∧ ∀ n ∈ z2, (Lit.int .i64 n).wf = true) (y2 : len2 * 8 ≤ 140737488351232) :
  Calls Try.prog 3 #[.int .i64 a0, .slice a1 len1 cap1, .slice a2 len2 cap2] w fun e w' => e = .returned (.bool true) ∧ Below w.heap.size w w' := by
 obtain ⟨l1, rfl, hr1, hm1, hw1, hc1⟩ := ReadsInt.ofRowC w1
 obtain ⟨l2, rfl, hr2, hm2, hw2, hc2⟩ := ReadsInt.ofRowC w2
 obtain ⟨k, h⟩ := P a0 l1 l2 w0 hm1 y1 hw1 hm2 y2 hw2
 refine (haywainlaw18_MoveBegins.calls k a0 _ _ l1 _ _ l2 true w (Kd.C_of_reads (d := (0 : Int)) (h1 := fun _ => rfl) hr1) hc1 (Kd.C_of_reads (d := (0 : Int)) (h1 := fun _ => rfl) hr2) hc2 h).mono ?_
 rintro e w' ⟨rfl, hd⟩
 exact ⟨rfl, hd⟩

end Go.Proofs.Ytbelnafoidbcjaa.PMove
