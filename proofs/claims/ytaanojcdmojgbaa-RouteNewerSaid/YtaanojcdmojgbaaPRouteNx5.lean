-- Printed for this claim by a turned copy of the print (wip/tools/patch.py); a text of this session, not of print.sh.
import Derived.Test.YtaanojcdmojgbaaPRouteNx0
import Derived.Test.YtaanojcdmojgbaaPRouteNx2
import Derived.Test.YtaanojcdmojgbaaPRouteNx3
import Derived.Test.YtaanojcdmojgbaaPRouteNx4
import Derived.Test.YtaanojcdmojgbaaXStrip
namespace Go.Proofs.Ytaanojcdmojgbaa.PRouteN
open Go.RowKit Go.Proofs.YtaanojcdmojgbaaW.PrintWords Go.Proofs.YtaanojcdmojgbaaW.PrintLast Go.Proofs.YtaanojcdmojgbaaW.PrintMore
attribute [local go_sem] max2_int min2_int max_two min_two max_three min_three max_four min_four   -- for this text's walks alone
set_option linter.unusedVariables false
set_option linter.unusedSimpArgs false

/-! ### route_Say: function 21 -/
def route_Say.j0 : Nat → Int → Int → Bool → Option (Int × Int)
 | 0, _, _, _ => none
 | k + 1, x1, x10, x27 => if x27 = true then (some (3, 0)) else (if x10 = x1 then (some (1, 0)) else (some (4, x10)))
def route_Say.f (k : Nat) (a0_0 : Int) (l0_1 : List Int) (l0_2 : List Int) (l0_3 : List Int) (a1 : Int) (a2 : Int) (a3 : Int) : Option (Int × Int) := (route_own.f k a0_0 l0_1 l0_2 l0_3).bind fun bt175 => ((route_To.f k bt175.1 bt175.2.1 bt175.2.2.1 bt175.2.2.2 a3).bind fun bt185 => (if a2 > bt175.1 then (some (2, 0)) else (if a2 < bt175.1 then (route_Say.j0 k a1 bt185.1 true) else (route_Say.j0 k a1 bt185.1 (bt185.2.2 != 0)))))
theorem route_Say.mono_l : ∀ k, (∀ y0 y1 y2, LeO (route_Say.j0 k y0 y1 y2) (route_Say.j0 (k + 1) y0 y1 y2))
 | 0 => fun _ _ _ r h => by simp [route_Say.j0] at h
 | k + 1 => by
  have ih0 := route_Say.mono_l k
  ·intro y0 y1 y2
   unfold route_Say.j0
   repeat' first
   | (with_reducible exact ih0 _ _ _)
   | (with_reducible exact route_To.mono _ _ _ _ _ _)
   | (with_reducible exact route_own.mono _ _ _ _ _)
   | (with_reducible exact LeO.refl _)
   | (with_reducible exact LeO.none _)
   | (with_reducible refine LeO.ite ?_ ?_)
   | (with_reducible refine LeO.bind ?_ (fun _ => ?_))
   | exact ih0 _ _ _
   | exact route_To.mono _ _ _ _ _ _
   | exact route_own.mono _ _ _ _ _
   | exact LeO.none _
   | refine LeO.ite ?_ ?_
   | refine LeO.bind ?_ (fun _ => ?_)
theorem route_Say.mono : ∀ a0 a1 a2 a3 a4 a5 a6 k, LeO (route_Say.f k a0 a1 a2 a3 a4 a5 a6) (route_Say.f (k + 1) a0 a1 a2 a3 a4 a5 a6) := by
 intro a0 a1 a2 a3 a4 a5 a6 k
 have ih0 := route_Say.mono_l k
 unfold route_Say.f
 repeat' first
   | (with_reducible exact ih0 _ _ _)
   | (with_reducible exact route_To.mono _ _ _ _ _ _)
   | (with_reducible exact route_own.mono _ _ _ _ _)
   | (with_reducible exact LeO.refl _)
   | (with_reducible exact LeO.none _)
   | (with_reducible refine LeO.ite ?_ ?_)
   | (with_reducible refine LeO.bind ?_ (fun _ => ?_))
   | exact ih0 _ _ _
   | exact route_To.mono _ _ _ _ _ _
   | exact route_own.mono _ _ _ _ _
   | exact LeO.none _
   | refine LeO.ite ?_ ?_
   | refine LeO.bind ?_ (fun _ => ?_)
set_option maxHeartbeats 8000000 in
set_option maxRecDepth 100000 in
theorem route_Say.calls (k : Nat) (a0_0 : Int) (A0_1 : Option Addr) (c0_1 : Nat) (l0_1 : List Int) (A0_2 : Option Addr) (c0_2 : Nat) (l0_2 : List Int) (A0_3 : Option Addr) (c0_3 : Nat) (l0_3 : List Int) (a1 : Int) (a2 : Int) (a3 : Int) (r1 : Int) (r2 : Int) (w : World) (hr0_1 : Kd.C (Kd.int .i64) w A0_1 l0_1.length l0_1) (hc0_1 : l0_1.length ≤ c0_1) (hr0_2 : Kd.C (Kd.int .i64) w A0_2 l0_2.length l0_2) (hc0_2 : l0_2.length ≤ c0_2) (hr0_3 : Kd.C (Kd.int .i64) w A0_3 l0_3.length l0_3) (hc0_3 : l0_3.length ≤ c0_3) (h : route_Say.f k a0_0 l0_1 l0_2 l0_3 a1 a2 a3 = some (r1, r2)) :
  Calls Try.prog 21 #[.agg #[.int .i64 a0_0, .slice A0_1 l0_1.length c0_1, .slice A0_2 l0_2.length c0_2, .slice A0_3 l0_3.length c0_3], .int .i64 a1, .int .i64 a2, .int .i64 a3] w fun e w' => e = .returned (.tuple #[.int .i64 r1, .int .i64 r2]) ∧ Below w.heap.size w w' := by
 have hu24 := Try.underlying24
 have HR0_1 := Aside0.mk hr0_1
 have HC0_1 := Aside0.mk hc0_1
 clear hr0_1 hc0_1
 have HR0_2 := Aside0.mk hr0_2
 have HC0_2 := Aside0.mk hc0_2
 clear hr0_2 hc0_2
 have HR0_3 := Aside0.mk hr0_3
 have HC0_3 := Aside0.mk hc0_3
 clear hr0_3 hc0_3
 have HB := Aside0.mk (Below.refl w.heap.size w)
 have H : ((route_own.f k a0_0 l0_1 l0_2 l0_3).bind fun bt175 => ((route_To.f k bt175.1 bt175.2.1 bt175.2.2.1 bt175.2.2.2 a3).bind fun bt185 => (if a2 > bt175.1 then (some (2, 0)) else (if a2 < bt175.1 then (route_Say.j0 k a1 bt185.1 true) else (route_Say.j0 k a1 bt185.1 (bt185.2.2 != 0)))))) = some (r1, r2) := h
 clear h
 replace H := Option.bind_eq_some_iff.mp H
 obtain ⟨⟨t175, t176, t179, t182⟩, A50, H⟩ := H
 try dsimp only at H
 have A5 := Aside0.mk A50
 clear A50
 replace H := Option.bind_eq_some_iff.mp H
 obtain ⟨⟨t185, t186, t187⟩, A60, H⟩ := H
 try dsimp only at H
 have A6 := Aside0.mk A60
 clear A60
 by_cases c7 : a2 > t175
 ·rw [if_pos c7] at H
  have c7b0 : decide (t175 < a2) = true := decide_eq_true c7
  clear c7
  simp only [Option.some.injEq, Prod.mk.injEq] at H
  obtain ⟨rfl, rfl⟩ := H
  go_enter Try.func21, Try.ntmps21
  go_wp2_with (first | ((with_reducible refine gate_dst (N := 4) rfl ?_); refine box_event ?hg (N := 4) ?hd (cs := #[.int .i64 a0_0, .slice A0_1 l0_1.length c0_1, .slice A0_2 l0_2.length c0_2, .slice A0_3 l0_3.length c0_3]) (t := 24) ?hr ?_; (case hd => rfl); (case hg => rfl); (case hr => first | (go_simp; done) | (go_simp; rfl)); intro gb174 hg w8 hbox hb; have n0_ := Aside0.mk (below_step (BW HB.out) hb); have n1_ := Aside0.mk (hbox); have n2_ := Aside0.mk ((by rw [hg]; exact (below_size (BW HB.out)) : w.heap.size ≤ gb174)); have n3_ := Aside0.mk ((by rw [hg]; exact (below_size (BW HB.out)) : w.heap.size ≤ gb174)); clear HB; have HB := n0_; have BK174 := n1_; have GW174 := n2_; have GE174 := n3_; clear n0_ n1_ n2_ n3_; clear hb hbox hg; have hcz9_0 : w8.cell? ⟨gb174, 0, none⟩ = some (.int .i64 a0_0) := (blk_cell BK174.out 0).trans rfl; have hcz9_1 : w8.cell? ⟨gb174, 1, none⟩ = some (.slice A0_1 l0_1.length c0_1) := (blk_cell BK174.out 1).trans rfl; have hcz9_2 : w8.cell? ⟨gb174, 2, none⟩ = some (.slice A0_2 l0_2.length c0_2) := (blk_cell BK174.out 2).trans rfl; have hcz9_3 : w8.cell? ⟨gb174, 3, none⟩ = some (.slice A0_3 l0_3.length c0_3) := (blk_cell BK174.out 3).trans rfl; have hfz9_0 := blk_frozen BK174.out 0; have hfz9_1 := blk_frozen BK174.out 1; have hfz9_2 := blk_frozen BK174.out 2; have hfz9_3 := blk_frozen BK174.out 3) | ((with_reducible refine gate_callee (f := 27) rfl ?_); refine goesL_ (some 14) rfl rfl Try.func27 (by kernel_rfl) rfl #[.agg #[.int .i64 a0_0, .slice A0_1 l0_1.length c0_1, .slice A0_2 l0_2.length c0_2, .slice A0_3 l0_3.length c0_3]] rfl (by (try simp only [List.map_toArray, List.map_cons, List.map_nil]); first | done | rfl | (simp only [List.length_drop, List.length_take]; rfl)) ?_; (with_reducible refine (route_own.calls k a0_0 _ _ l0_1 _ _ l0_2 _ _ l0_3 t175 t176 t179 t182 _ ?side1 ?side2 ?side3 ?side4 ?side5 ?side6 A5.out).mono ?_); (case side1 => repeat (first | exact (Kd.C_below HR0_1.out HB.out) | (with_reducible refine Kd.C_alloc ?_ _) | (with_reducible refine Kd.C_drewN ?_ _) | (with_reducible refine Kd.C_drew ?_))); (case side2 => exact HC0_1.out); (case side3 => repeat (first | exact (Kd.C_below HR0_2.out HB.out) | (with_reducible refine Kd.C_alloc ?_ _) | (with_reducible refine Kd.C_drewN ?_ _) | (with_reducible refine Kd.C_drew ?_))); (case side4 => exact HC0_2.out); (case side5 => repeat (first | exact (Kd.C_below HR0_3.out HB.out) | (with_reducible refine Kd.C_alloc ?_ _) | (with_reducible refine Kd.C_drewN ?_ _) | (with_reducible refine Kd.C_drew ?_))); (case side6 => exact HC0_3.out); rintro e w10 ⟨v177, v180, v183, rfl, ho0, ho1, ho2, hb⟩; refine ⟨_, rfl, ?_⟩; have n0_ := Aside0.mk (Kd.R_lower ho0 (below_size (by repeat (first | (with_reducible first | exact HB.out | apply below_alloc | apply pw_below_drewN | apply below_drew1 | refine below_set ?_ (Aside0.out (by assumption))) | exact HB.out)))); have n1_ := Aside0.mk (Kd.R_lower ho1 (below_size (by repeat (first | (with_reducible first | exact HB.out | apply below_alloc | apply pw_below_drewN | apply below_drew1 | refine below_set ?_ (Aside0.out (by assumption))) | exact HB.out)))); have n2_ := Aside0.mk (Kd.R_lower ho2 (below_size (by repeat (first | (with_reducible first | exact HB.out | apply below_alloc | apply pw_below_drewN | apply below_drew1 | refine below_set ?_ (Aside0.out (by assumption))) | exact HB.out)))); have n3_ := Aside0.mk (blk_below (g := gb174) (o := .cells #[.int .i64 a0_0, .slice A0_1 l0_1.length c0_1, .slice A0_2 l0_2.length c0_2, .slice A0_3 l0_3.length c0_3] 24 (0, 0)) (BL BK174.out) hb); have n4_ := Aside0.mk (below_step (by repeat (first | (with_reducible first | exact HB.out | apply below_alloc | apply pw_below_drewN | apply below_drew1 | refine below_set ?_ (Aside0.out (by assumption))) | exact HB.out)) hb); clear BK174; clear HB; have HO178 := n0_; have HO181 := n1_; have HO184 := n2_; have BK174 := n3_; have HB := n4_; clear n0_ n1_ n2_ n3_ n4_; (try clear hb); (try clear hb2); (try clear hk); (try clear hi); (try clear ho0); (try clear ho1); (try clear ho2); have hcz11_0 : w10.cell? ⟨gb174, 0, none⟩ = some (.int .i64 a0_0) := (blk_cell BK174.out 0).trans rfl; have hcz11_1 : w10.cell? ⟨gb174, 1, none⟩ = some (.slice A0_1 l0_1.length c0_1) := (blk_cell BK174.out 1).trans rfl; have hcz11_2 : w10.cell? ⟨gb174, 2, none⟩ = some (.slice A0_2 l0_2.length c0_2) := (blk_cell BK174.out 2).trans rfl; have hcz11_3 : w10.cell? ⟨gb174, 3, none⟩ = some (.slice A0_3 l0_3.length c0_3) := (blk_cell BK174.out 3).trans rfl; have hfz11_0 := blk_frozen BK174.out 0; have hfz11_1 := blk_frozen BK174.out 1; have hfz11_2 := blk_frozen BK174.out 2; have hfz11_3 := blk_frozen BK174.out 3; obtain ⟨Ao12, co12, eo12⟩ := Kd.R_slice HO178.out; subst eo12; obtain ⟨Ao13, co13, eo13⟩ := Kd.R_slice HO181.out; subst eo13; obtain ⟨Ao14, co14, eo14⟩ := Kd.R_slice HO184.out; subst eo14) | ((with_reducible refine gate_callee (f := 19) rfl ?_); refine goesL_ (some 18) rfl rfl Try.func19 (by kernel_rfl) rfl #[.agg #[.int .i64 t175, .slice Ao12 t176.length co12, .slice Ao13 t179.length co13, .slice Ao14 t182.length co14], .int .i64 a3] rfl (by (try simp only [List.map_toArray, List.map_cons, List.map_nil]); first | done | rfl | (simp only [List.length_drop, List.length_take]; rfl)) ?_; (with_reducible refine (route_To.calls k t175 _ _ t176 _ _ t179 _ _ t182 a3 t185 t186 t187 _ ?side1 ?side2 ?side3 ?side4 ?side5 ?side6 A6.out).mono ?_); (case side1 => refine (Kd.R_reads' (e := 3) (base := w.heap.size) (ok := fun k_ => (some k_ ≠ (.slice Ao13 t179.length co13 : Value).ownBlock ∧ some k_ ≠ (.slice Ao14 t182.length co14 : Value).ownBlock)) (n := t176.length) (c := co12) ?_).2.2; exact (by apply Kd.RL; exact (Kd.RG (g := gb174) (Kd.R_types HO178.out BK174.out (by decide))))); (case side2 => exact (Kd.R_reads' HO178.out).2.1); (case side3 => refine (Kd.R_reads' (e := 3) (base := w.heap.size) (ok := fun k_ => (some k_ ≠ (.slice Ao12 t176.length co12 : Value).ownBlock ∧ some k_ ≠ (.slice Ao14 t182.length co14 : Value).ownBlock)) (n := t179.length) (c := co13) ?_).2.2; exact (by apply Kd.RL; exact (Kd.RG (g := gb174) (Kd.R_types HO181.out BK174.out (by decide))))); (case side4 => exact (Kd.R_reads' HO181.out).2.1); (case side5 => refine (Kd.R_reads' (e := 3) (base := w.heap.size) (ok := fun k_ => (some k_ ≠ (.slice Ao12 t176.length co12 : Value).ownBlock ∧ some k_ ≠ (.slice Ao13 t179.length co13 : Value).ownBlock)) (n := t182.length) (c := co14) ?_).2.2; exact (by apply Kd.RL; exact (Kd.RG (g := gb174) (Kd.R_types HO184.out BK174.out (by decide))))); (case side6 => exact (Kd.R_reads' HO184.out).2.1); rintro e w15 ⟨rfl, hb⟩; refine ⟨_, rfl, ?_⟩; have n0_ := Aside0.mk (Kd.R_below (by apply Kd.RL; exact (Kd.RG (g := gb174) (Kd.R_types HO178.out BK174.out (by decide)))) hb); have n1_ := Aside0.mk (Kd.R_below (by apply Kd.RL; exact (Kd.RG (g := gb174) (Kd.R_types HO181.out BK174.out (by decide)))) hb); have n2_ := Aside0.mk (Kd.R_below (by apply Kd.RL; exact (Kd.RG (g := gb174) (Kd.R_types HO184.out BK174.out (by decide)))) hb); have n3_ := Aside0.mk (blk_below (g := gb174) (o := .cells #[.int .i64 t175, .slice Ao12 t176.length co12, .slice Ao13 t179.length co13, .slice Ao14 t182.length co14] 24 (0, 0)) (by apply BL; refine blk_put (cs := #[.int .i64 t175, .slice Ao12 t176.length co12, .slice Ao13 t179.length co13, .slice A0_3 l0_3.length c0_3]) ?_ 3 _ rfl; apply BL; refine blk_put (cs := #[.int .i64 t175, .slice Ao12 t176.length co12, .slice A0_2 l0_2.length c0_2, .slice A0_3 l0_3.length c0_3]) ?_ 2 _ rfl; apply BL; refine blk_put (cs := #[.int .i64 t175, .slice A0_1 l0_1.length c0_1, .slice A0_2 l0_2.length c0_2, .slice A0_3 l0_3.length c0_3]) ?_ 1 _ rfl; apply BL; refine blk_put (cs := #[.int .i64 a0_0, .slice A0_1 l0_1.length c0_1, .slice A0_2 l0_2.length c0_2, .slice A0_3 l0_3.length c0_3]) ?_ 0 _ rfl; apply BL; exact BK174.out) hb); have n4_ := Aside0.mk (below_step (by repeat (first | (with_reducible first | exact HB.out | apply below_alloc | apply pw_below_drewN | apply below_drew1 | refine below_set ?_ (Aside0.out (by assumption))) | exact HB.out)) hb); clear HO178; clear HO181; clear HO184; clear BK174; clear HB; have HO178 := n0_; have HO181 := n1_; have HO184 := n2_; have BK174 := n3_; have HB := n4_; clear n0_ n1_ n2_ n3_ n4_; (try clear hb); (try clear hb2); (try clear hk); (try clear hi); have hcz16_0 : w15.cell? ⟨gb174, 0, none⟩ = some (.int .i64 t175) := (blk_cell BK174.out 0).trans rfl; have hcz16_1 : w15.cell? ⟨gb174, 1, none⟩ = some (.slice Ao12 t176.length co12) := (blk_cell BK174.out 1).trans rfl; have hcz16_2 : w15.cell? ⟨gb174, 2, none⟩ = some (.slice Ao13 t179.length co13) := (blk_cell BK174.out 2).trans rfl; have hcz16_3 : w15.cell? ⟨gb174, 3, none⟩ = some (.slice Ao14 t182.length co14) := (blk_cell BK174.out 3).trans rfl; have hfz16_0 := blk_frozen BK174.out 0; have hfz16_1 := blk_frozen BK174.out 1; have hfz16_2 := blk_frozen BK174.out 2; have hfz16_3 := blk_frozen BK174.out 3))
  go_ret2
  exact ⟨by first | rfl | (simp [errW_none, errW_some] <;> rfl) | (simp [*, errW_none, errW_some] <;> rfl), by repeat (first | (with_reducible first | exact HB.out | apply below_alloc | apply pw_below_drewN | apply below_drew1 | refine below_set ?_ (Aside0.out (by assumption))) | exact HB.out)⟩
 ·rw [if_neg c7] at H
  have c7b0 : decide (t175 < a2) = false := decide_eq_false c7
  clear c7
  have HC17 := Aside0.mk H
  clear H
  go_enter Try.func21, Try.ntmps21
  go_upto_region 5 with (first | ((with_reducible refine gate_dst (N := 4) rfl ?_); refine box_event ?hg (N := 4) ?hd (cs := #[.int .i64 a0_0, .slice A0_1 l0_1.length c0_1, .slice A0_2 l0_2.length c0_2, .slice A0_3 l0_3.length c0_3]) (t := 24) ?hr ?_; (case hd => rfl); (case hg => rfl); (case hr => first | (go_simp; done) | (go_simp; rfl)); intro gb174 hg w18 hbox hb; have n0_ := Aside0.mk (below_step (BW HB.out) hb); have n1_ := Aside0.mk (hbox); have n2_ := Aside0.mk ((by rw [hg]; exact (below_size (BW HB.out)) : w.heap.size ≤ gb174)); have n3_ := Aside0.mk ((by rw [hg]; exact (below_size (BW HB.out)) : w.heap.size ≤ gb174)); clear HB; have HB := n0_; have BK174 := n1_; have GW174 := n2_; have GE174 := n3_; clear n0_ n1_ n2_ n3_; clear hb hbox hg; have hcz19_0 : w18.cell? ⟨gb174, 0, none⟩ = some (.int .i64 a0_0) := (blk_cell BK174.out 0).trans rfl; have hcz19_1 : w18.cell? ⟨gb174, 1, none⟩ = some (.slice A0_1 l0_1.length c0_1) := (blk_cell BK174.out 1).trans rfl; have hcz19_2 : w18.cell? ⟨gb174, 2, none⟩ = some (.slice A0_2 l0_2.length c0_2) := (blk_cell BK174.out 2).trans rfl; have hcz19_3 : w18.cell? ⟨gb174, 3, none⟩ = some (.slice A0_3 l0_3.length c0_3) := (blk_cell BK174.out 3).trans rfl; have hfz19_0 := blk_frozen BK174.out 0; have hfz19_1 := blk_frozen BK174.out 1; have hfz19_2 := blk_frozen BK174.out 2; have hfz19_3 := blk_frozen BK174.out 3) | ((with_reducible refine gate_callee (f := 27) rfl ?_); refine goesL_ (some 14) rfl rfl Try.func27 (by kernel_rfl) rfl #[.agg #[.int .i64 a0_0, .slice A0_1 l0_1.length c0_1, .slice A0_2 l0_2.length c0_2, .slice A0_3 l0_3.length c0_3]] rfl (by (try simp only [List.map_toArray, List.map_cons, List.map_nil]); first | done | rfl | (simp only [List.length_drop, List.length_take]; rfl)) ?_; (with_reducible refine (route_own.calls k a0_0 _ _ l0_1 _ _ l0_2 _ _ l0_3 t175 t176 t179 t182 _ ?side1 ?side2 ?side3 ?side4 ?side5 ?side6 A5.out).mono ?_); (case side1 => repeat (first | exact (Kd.C_below HR0_1.out HB.out) | (with_reducible refine Kd.C_alloc ?_ _) | (with_reducible refine Kd.C_drewN ?_ _) | (with_reducible refine Kd.C_drew ?_))); (case side2 => exact HC0_1.out); (case side3 => repeat (first | exact (Kd.C_below HR0_2.out HB.out) | (with_reducible refine Kd.C_alloc ?_ _) | (with_reducible refine Kd.C_drewN ?_ _) | (with_reducible refine Kd.C_drew ?_))); (case side4 => exact HC0_2.out); (case side5 => repeat (first | exact (Kd.C_below HR0_3.out HB.out) | (with_reducible refine Kd.C_alloc ?_ _) | (with_reducible refine Kd.C_drewN ?_ _) | (with_reducible refine Kd.C_drew ?_))); (case side6 => exact HC0_3.out); rintro e w20 ⟨v177, v180, v183, rfl, ho0, ho1, ho2, hb⟩; refine ⟨_, rfl, ?_⟩; have n0_ := Aside0.mk (Kd.R_lower ho0 (below_size (by repeat (first | (with_reducible first | exact HB.out | apply below_alloc | apply pw_below_drewN | apply below_drew1 | refine below_set ?_ (Aside0.out (by assumption))) | exact HB.out)))); have n1_ := Aside0.mk (Kd.R_lower ho1 (below_size (by repeat (first | (with_reducible first | exact HB.out | apply below_alloc | apply pw_below_drewN | apply below_drew1 | refine below_set ?_ (Aside0.out (by assumption))) | exact HB.out)))); have n2_ := Aside0.mk (Kd.R_lower ho2 (below_size (by repeat (first | (with_reducible first | exact HB.out | apply below_alloc | apply pw_below_drewN | apply below_drew1 | refine below_set ?_ (Aside0.out (by assumption))) | exact HB.out)))); have n3_ := Aside0.mk (blk_below (g := gb174) (o := .cells #[.int .i64 a0_0, .slice A0_1 l0_1.length c0_1, .slice A0_2 l0_2.length c0_2, .slice A0_3 l0_3.length c0_3] 24 (0, 0)) (BL BK174.out) hb); have n4_ := Aside0.mk (below_step (by repeat (first | (with_reducible first | exact HB.out | apply below_alloc | apply pw_below_drewN | apply below_drew1 | refine below_set ?_ (Aside0.out (by assumption))) | exact HB.out)) hb); clear BK174; clear HB; have HO178 := n0_; have HO181 := n1_; have HO184 := n2_; have BK174 := n3_; have HB := n4_; clear n0_ n1_ n2_ n3_ n4_; (try clear hb); (try clear hb2); (try clear hk); (try clear hi); (try clear ho0); (try clear ho1); (try clear ho2); have hcz21_0 : w20.cell? ⟨gb174, 0, none⟩ = some (.int .i64 a0_0) := (blk_cell BK174.out 0).trans rfl; have hcz21_1 : w20.cell? ⟨gb174, 1, none⟩ = some (.slice A0_1 l0_1.length c0_1) := (blk_cell BK174.out 1).trans rfl; have hcz21_2 : w20.cell? ⟨gb174, 2, none⟩ = some (.slice A0_2 l0_2.length c0_2) := (blk_cell BK174.out 2).trans rfl; have hcz21_3 : w20.cell? ⟨gb174, 3, none⟩ = some (.slice A0_3 l0_3.length c0_3) := (blk_cell BK174.out 3).trans rfl; have hfz21_0 := blk_frozen BK174.out 0; have hfz21_1 := blk_frozen BK174.out 1; have hfz21_2 := blk_frozen BK174.out 2; have hfz21_3 := blk_frozen BK174.out 3; obtain ⟨Ao22, co22, eo22⟩ := Kd.R_slice HO178.out; subst eo22; obtain ⟨Ao23, co23, eo23⟩ := Kd.R_slice HO181.out; subst eo23; obtain ⟨Ao24, co24, eo24⟩ := Kd.R_slice HO184.out; subst eo24) | ((with_reducible refine gate_callee (f := 19) rfl ?_); refine goesL_ (some 18) rfl rfl Try.func19 (by kernel_rfl) rfl #[.agg #[.int .i64 t175, .slice Ao22 t176.length co22, .slice Ao23 t179.length co23, .slice Ao24 t182.length co24], .int .i64 a3] rfl (by (try simp only [List.map_toArray, List.map_cons, List.map_nil]); first | done | rfl | (simp only [List.length_drop, List.length_take]; rfl)) ?_; (with_reducible refine (route_To.calls k t175 _ _ t176 _ _ t179 _ _ t182 a3 t185 t186 t187 _ ?side1 ?side2 ?side3 ?side4 ?side5 ?side6 A6.out).mono ?_); (case side1 => refine (Kd.R_reads' (e := 3) (base := w.heap.size) (ok := fun k_ => (some k_ ≠ (.slice Ao23 t179.length co23 : Value).ownBlock ∧ some k_ ≠ (.slice Ao24 t182.length co24 : Value).ownBlock)) (n := t176.length) (c := co22) ?_).2.2; exact (by apply Kd.RL; exact (Kd.RG (g := gb174) (Kd.R_types HO178.out BK174.out (by decide))))); (case side2 => exact (Kd.R_reads' HO178.out).2.1); (case side3 => refine (Kd.R_reads' (e := 3) (base := w.heap.size) (ok := fun k_ => (some k_ ≠ (.slice Ao22 t176.length co22 : Value).ownBlock ∧ some k_ ≠ (.slice Ao24 t182.length co24 : Value).ownBlock)) (n := t179.length) (c := co23) ?_).2.2; exact (by apply Kd.RL; exact (Kd.RG (g := gb174) (Kd.R_types HO181.out BK174.out (by decide))))); (case side4 => exact (Kd.R_reads' HO181.out).2.1); (case side5 => refine (Kd.R_reads' (e := 3) (base := w.heap.size) (ok := fun k_ => (some k_ ≠ (.slice Ao22 t176.length co22 : Value).ownBlock ∧ some k_ ≠ (.slice Ao23 t179.length co23 : Value).ownBlock)) (n := t182.length) (c := co24) ?_).2.2; exact (by apply Kd.RL; exact (Kd.RG (g := gb174) (Kd.R_types HO184.out BK174.out (by decide))))); (case side6 => exact (Kd.R_reads' HO184.out).2.1); rintro e w25 ⟨rfl, hb⟩; refine ⟨_, rfl, ?_⟩; have n0_ := Aside0.mk (Kd.R_below (by apply Kd.RL; exact (Kd.RG (g := gb174) (Kd.R_types HO178.out BK174.out (by decide)))) hb); have n1_ := Aside0.mk (Kd.R_below (by apply Kd.RL; exact (Kd.RG (g := gb174) (Kd.R_types HO181.out BK174.out (by decide)))) hb); have n2_ := Aside0.mk (Kd.R_below (by apply Kd.RL; exact (Kd.RG (g := gb174) (Kd.R_types HO184.out BK174.out (by decide)))) hb); have n3_ := Aside0.mk (blk_below (g := gb174) (o := .cells #[.int .i64 t175, .slice Ao22 t176.length co22, .slice Ao23 t179.length co23, .slice Ao24 t182.length co24] 24 (0, 0)) (by apply BL; refine blk_put (cs := #[.int .i64 t175, .slice Ao22 t176.length co22, .slice Ao23 t179.length co23, .slice A0_3 l0_3.length c0_3]) ?_ 3 _ rfl; apply BL; refine blk_put (cs := #[.int .i64 t175, .slice Ao22 t176.length co22, .slice A0_2 l0_2.length c0_2, .slice A0_3 l0_3.length c0_3]) ?_ 2 _ rfl; apply BL; refine blk_put (cs := #[.int .i64 t175, .slice A0_1 l0_1.length c0_1, .slice A0_2 l0_2.length c0_2, .slice A0_3 l0_3.length c0_3]) ?_ 1 _ rfl; apply BL; refine blk_put (cs := #[.int .i64 a0_0, .slice A0_1 l0_1.length c0_1, .slice A0_2 l0_2.length c0_2, .slice A0_3 l0_3.length c0_3]) ?_ 0 _ rfl; apply BL; exact BK174.out) hb); have n4_ := Aside0.mk (below_step (by repeat (first | (with_reducible first | exact HB.out | apply below_alloc | apply pw_below_drewN | apply below_drew1 | refine below_set ?_ (Aside0.out (by assumption))) | exact HB.out)) hb); clear HO178; clear HO181; clear HO184; clear BK174; clear HB; have HO178 := n0_; have HO181 := n1_; have HO184 := n2_; have BK174 := n3_; have HB := n4_; clear n0_ n1_ n2_ n3_ n4_; (try clear hb); (try clear hb2); (try clear hk); (try clear hi); have hcz26_0 : w25.cell? ⟨gb174, 0, none⟩ = some (.int .i64 t175) := (blk_cell BK174.out 0).trans rfl; have hcz26_1 : w25.cell? ⟨gb174, 1, none⟩ = some (.slice Ao22 t176.length co22) := (blk_cell BK174.out 1).trans rfl; have hcz26_2 : w25.cell? ⟨gb174, 2, none⟩ = some (.slice Ao23 t179.length co23) := (blk_cell BK174.out 2).trans rfl; have hcz26_3 : w25.cell? ⟨gb174, 3, none⟩ = some (.slice Ao24 t182.length co24) := (blk_cell BK174.out 3).trans rfl; have hfz26_0 := blk_frozen BK174.out 0; have hfz26_1 := blk_frozen BK174.out 1; have hfz26_2 := blk_frozen BK174.out 2; have hfz26_3 := blk_frozen BK174.out 3))
  (try simp only [Act.put, List.setIfInBounds_toArray, List.set_cons_zero, List.set_cons_succ])
  go_cut [27] (fun v27 wc => ∃ (kq : Nat) (x27_16 : Bool), v27 = .bool x27_16 ∧ Aside0 (route_Say.j0 kq a1 t185 x27_16 = some (r1, r2)) ∧ Aside0 (kq ≤ k) ∧ Aside0 (Kd.R (Kd.int .i64) 3 wc w.heap.size (fun k_ => some k_ ≠ ((.slice Ao23 t179.length co23) : Value).ownBlock ∧ some k_ ≠ ((.slice Ao24 t182.length co24) : Value).ownBlock) (.slice Ao22 t176.length co22) t176) ∧ Aside0 (Kd.R (Kd.int .i64) 3 wc w.heap.size (fun k_ => some k_ ≠ ((.slice Ao22 t176.length co22) : Value).ownBlock ∧ some k_ ≠ ((.slice Ao24 t182.length co24) : Value).ownBlock) (.slice Ao23 t179.length co23) t179) ∧ Aside0 (Kd.R (Kd.int .i64) 3 wc w.heap.size (fun k_ => some k_ ≠ ((.slice Ao22 t176.length co22) : Value).ownBlock ∧ some k_ ≠ ((.slice Ao23 t179.length co23) : Value).ownBlock) (.slice Ao24 t182.length co24) t182) ∧ Aside0 (wc.heap[gb174]? = some (.cells #[.int .i64 t175, (.slice Ao22 t176.length co22), (.slice Ao23 t179.length co23), (.slice Ao24 t182.length co24)] 24 (0, 0))) ∧ Aside0 (Below w.heap.size w wc))
  case first =>
   have H := HC17.out
   clear HC17
   by_cases c27 : a2 < t175
   ·rw [if_pos c27] at H
    have c27b0 : decide (a2 < t175) = true := decide_eq_true c27
    clear c27
    (first | rw [c27b0] | (simp only [i64_w, i32_w]; rw [c27b0]) | skip)
    have H' := Aside0.mk H
    clear H
    have hcz28_0 : w25.cell? ⟨gb174, 0, none⟩ = some (.int .i64 t175) := (blk_cell BK174.out 0).trans rfl
    have hcz28_1 : w25.cell? ⟨gb174, 1, none⟩ = some (.slice Ao22 t176.length co22) := (blk_cell BK174.out 1).trans rfl
    have hcz28_2 : w25.cell? ⟨gb174, 2, none⟩ = some (.slice Ao23 t179.length co23) := (blk_cell BK174.out 2).trans rfl
    have hcz28_3 : w25.cell? ⟨gb174, 3, none⟩ = some (.slice Ao24 t182.length co24) := (blk_cell BK174.out 3).trans rfl
    have hfz28_0 := blk_frozen BK174.out 0
    have hfz28_1 := blk_frozen BK174.out 1
    have hfz28_2 := blk_frozen BK174.out 2
    have hfz28_3 := blk_frozen BK174.out 3
    go_wp2
    go_meet
    case rel => exact ⟨_, (true), (by first | rfl | (simp; done) | (simp [*]; done)), H', ⟨by first | omega | exact Nat.le_refl _⟩, ⟨Kd.RL HO178.out⟩, ⟨Kd.RL HO181.out⟩, ⟨Kd.RL HO184.out⟩, ⟨BL BK174.out⟩, ⟨by repeat (first | (with_reducible first | exact HB.out | apply below_alloc | apply pw_below_drewN | apply below_drew1 | refine below_set ?_ (Aside0.out (by assumption))) | exact HB.out)⟩⟩
   ·rw [if_neg c27] at H
    have c27b0 : decide (a2 < t175) = false := decide_eq_false c27
    clear c27
    (first | rw [c27b0] | (simp only [i64_w, i32_w]; rw [c27b0]) | skip)
    have H' := Aside0.mk H
    clear H
    have hcz29_0 : w25.cell? ⟨gb174, 0, none⟩ = some (.int .i64 t175) := (blk_cell BK174.out 0).trans rfl
    have hcz29_1 : w25.cell? ⟨gb174, 1, none⟩ = some (.slice Ao22 t176.length co22) := (blk_cell BK174.out 1).trans rfl
    have hcz29_2 : w25.cell? ⟨gb174, 2, none⟩ = some (.slice Ao23 t179.length co23) := (blk_cell BK174.out 2).trans rfl
    have hcz29_3 : w25.cell? ⟨gb174, 3, none⟩ = some (.slice Ao24 t182.length co24) := (blk_cell BK174.out 3).trans rfl
    have hfz29_0 := blk_frozen BK174.out 0
    have hfz29_1 := blk_frozen BK174.out 1
    have hfz29_2 := blk_frozen BK174.out 2
    have hfz29_3 := blk_frozen BK174.out 3
    go_wp2
    go_meet
    case rel => exact ⟨_, ((t187 != 0)), (by first | rfl | (simp; done) | (simp [*]; done)), H', ⟨by first | omega | exact Nat.le_refl _⟩, ⟨Kd.RL HO178.out⟩, ⟨Kd.RL HO181.out⟩, ⟨Kd.RL HO184.out⟩, ⟨BL BK174.out⟩, ⟨by repeat (first | (with_reducible first | exact HB.out | apply below_alloc | apply pw_below_drewN | apply below_drew1 | refine below_set ?_ (Aside0.out (by assumption))) | exact HB.out)⟩⟩
  case rest =>
   clear HC17
   try clear c1
   try clear c2
   try clear p2
   try clear c7
   try clear c7b0
   try clear c19
   try clear c21
   try clear c27
   try clear c27b0
   try clear hcz11_0
   try clear hcz11_1
   try clear hcz11_2
   try clear hcz11_3
   try clear hcz16_0
   try clear hcz16_1
   try clear hcz16_2
   try clear hcz16_3
   try clear hcz19_0
   try clear hcz19_1
   try clear hcz19_2
   try clear hcz19_3
   try clear hcz21_0
   try clear hcz21_1
   try clear hcz21_2
   try clear hcz21_3
   try clear hcz26_0
   try clear hcz26_1
   try clear hcz26_2
   try clear hcz26_3
   try clear hcz28_0
   try clear hcz28_1
   try clear hcz28_2
   try clear hcz28_3
   try clear hcz29_0
   try clear hcz29_1
   try clear hcz29_2
   try clear hcz29_3
   try clear hcz9_0
   try clear hcz9_1
   try clear hcz9_2
   try clear hcz9_3
   try clear hfz11_0
   try clear hfz11_1
   try clear hfz11_2
   try clear hfz11_3
   try clear hfz16_0
   try clear hfz16_1
   try clear hfz16_2
   try clear hfz16_3
   try clear hfz19_0
   try clear hfz19_1
   try clear hfz19_2
   try clear hfz19_3
   try clear hfz21_0
   try clear hfz21_1
   try clear hfz21_2
   try clear hfz21_3
   try clear hfz26_0
   try clear hfz26_1
   try clear hfz26_2
   try clear hfz26_3
   try clear hfz28_0
   try clear hfz28_1
   try clear hfz28_2
   try clear hfz28_3
   try clear hfz29_0
   try clear hfz29_1
   try clear hfz29_2
   try clear hfz29_3
   try clear hfz9_0
   try clear hfz9_1
   try clear hfz9_2
   try clear hfz9_3
   obtain ⟨kq, x27_16, rfl, HA, HJ16, HO_175001, HO_175002, HO_175003, BK174, HB⟩ := hcut
   cases kq with
   | zero => exact absurd HA.out (by simp [route_Say.j0])
   | succ kj16 =>
    have H := HA.out
    clear HA
    simp only [route_Say.j0] at H
    by_cases c30 : x27_16 = true
    ·subst c30
     rw [if_pos rfl] at H
     simp only [Option.some.injEq, Prod.mk.injEq] at H
     obtain ⟨rfl, rfl⟩ := H
     go_wp2
     go_ret2
     exact ⟨by first | rfl | (simp [errW_none, errW_some] <;> rfl) | (simp [*, errW_none, errW_some] <;> rfl), by repeat (first | (with_reducible first | exact HB.out | apply below_alloc | apply pw_below_drewN | apply below_drew1 | refine below_set ?_ (Aside0.out (by assumption))) | exact HB.out)⟩
    ·replace c30 := Bool.eq_false_iff.mpr c30
     subst c30
     rw [if_neg (show ¬ (false = true) by decide)] at H
     by_cases c31 : t185 = a1
     ·rw [if_pos c31] at H
      have c31b0 : (t185 == a1) = true := beq_iff_eq.mpr c31
      have c31b1 : (t185 != a1) = false := bne_eq_false_iff_eq.mpr c31
      clear c31
      simp only [Option.some.injEq, Prod.mk.injEq] at H
      obtain ⟨rfl, rfl⟩ := H
      go_wp2
      go_ret2
      exact ⟨by first | rfl | (simp [errW_none, errW_some] <;> rfl) | (simp [*, errW_none, errW_some] <;> rfl), by repeat (first | (with_reducible first | exact HB.out | apply below_alloc | apply pw_below_drewN | apply below_drew1 | refine below_set ?_ (Aside0.out (by assumption))) | exact HB.out)⟩
     ·rw [if_neg c31] at H
      have c31b0 : (t185 == a1) = false := beq_eq_false_iff_ne.mpr c31
      have c31b1 : (t185 != a1) = true := bne_iff_ne.mpr c31
      simp only [Option.some.injEq, Prod.mk.injEq] at H
      obtain ⟨rfl, rfl⟩ := H
      go_wp2
      go_ret2
      exact ⟨by first | rfl | (simp [errW_none, errW_some] <;> rfl) | (simp [*, errW_none, errW_some] <;> rfl), by repeat (first | (with_reducible first | exact HB.out | apply below_alloc | apply pw_below_drewN | apply below_drew1 | refine below_set ?_ (Aside0.out (by assumption))) | exact HB.out)⟩

/-! ### haywainlaw17_knows: function 10 -/
def haywainlaw17_knows.f (k : Nat)  : Option (Bool) := (some (([1, 2, 1] : List Int) : List Int)).bind fun y188 => ((some (([1, 2] : List Int) : List Int)).bind fun y191 => ((some (([5, 6] : List Int) : List Int)).bind fun y194 => ((route_To.f k 3 y188 y191 y194 1).bind fun bt198 => ((route_Say.f k 3 y188 y191 y194 1 3 1).bind fun bt201 => ((route_Say.f k 3 y188 y191 y194 1 4 0).bind fun bt203 => ((route_Say.f k 3 y188 y191 y194 1 2 0).bind fun bt205 => (if bt198.1 = 2 then (if bt198.2.1 = 6 then (if bt198.2.2 = 0 then ((route_Mine.f k 3 y188 y191 y194 1).bind fun t207 => ((haywainref09_SameInts.f k t207 (([0, 2] : List Int))).bind fun t213 => (if t213 = true then (if bt201.1 = 4 then (if bt201.2 = 2 then (if bt203.1 = 2 then (if bt205.1 = 3 then ((route_Right.f k 3 y188 y191 y194).bind fun t214 => (if t214 = true then ((route_Inc.f k 3 y188 y191 y194 1).bind fun t215 => (some (t215 == 5))) else (none))) else (none)) else (none)) else (none)) else (none)) else (none)))) else (none)) else (none)) else (none))))))))
theorem haywainlaw17_knows.mono : ∀ k, LeO (haywainlaw17_knows.f k ) (haywainlaw17_knows.f (k + 1) ) := by
 intro  k
 unfold haywainlaw17_knows.f
 repeat' first
   | (with_reducible exact haywainref09_SameInts.mono _ _ _)
   | (with_reducible exact route_Inc.mono _ _ _ _ _ _)
   | (with_reducible exact route_Mine.mono _ _ _ _ _ _)
   | (with_reducible exact route_Right.mono _ _ _ _ _)
   | (with_reducible exact route_Say.mono _ _ _ _ _ _ _ _)
   | (with_reducible exact route_To.mono _ _ _ _ _ _)
   | (with_reducible exact LeO.refl _)
   | (with_reducible exact LeO.none _)
   | (with_reducible refine LeO.ite ?_ ?_)
   | (with_reducible refine LeO.bind ?_ (fun _ => ?_))
   | exact haywainref09_SameInts.mono _ _ _
   | exact route_Inc.mono _ _ _ _ _ _
   | exact route_Mine.mono _ _ _ _ _ _
   | exact route_Right.mono _ _ _ _ _
   | exact route_Say.mono _ _ _ _ _ _ _ _
   | exact route_To.mono _ _ _ _ _ _
   | exact LeO.none _
   | refine LeO.ite ?_ ?_
   | refine LeO.bind ?_ (fun _ => ?_)
set_option maxHeartbeats 8000000 in
set_option maxRecDepth 100000 in
theorem haywainlaw17_knows.calls (k : Nat)  (r : Bool) (w : World) (h : haywainlaw17_knows.f k  = some r) :
  Calls Try.prog 10 #[] w fun e w' => e = .returned (.bool r) ∧ Below w.heap.size w w' := by
 have hu24 := Try.underlying24
 have HB := Aside0.mk (Below.refl w.heap.size w)
 have H : ((some (([1, 2, 1] : List Int) : List Int)).bind fun y188 => ((some (([1, 2] : List Int) : List Int)).bind fun y191 => ((some (([5, 6] : List Int) : List Int)).bind fun y194 => ((route_To.f k 3 y188 y191 y194 1).bind fun bt198 => ((route_Say.f k 3 y188 y191 y194 1 3 1).bind fun bt201 => ((route_Say.f k 3 y188 y191 y194 1 4 0).bind fun bt203 => ((route_Say.f k 3 y188 y191 y194 1 2 0).bind fun bt205 => (if bt198.1 = 2 then (if bt198.2.1 = 6 then (if bt198.2.2 = 0 then ((route_Mine.f k 3 y188 y191 y194 1).bind fun t207 => ((haywainref09_SameInts.f k t207 (([0, 2] : List Int))).bind fun t213 => (if t213 = true then (if bt201.1 = 4 then (if bt201.2 = 2 then (if bt203.1 = 2 then (if bt205.1 = 3 then ((route_Right.f k 3 y188 y191 y194).bind fun t214 => (if t214 = true then ((route_Inc.f k 3 y188 y191 y194 1).bind fun t215 => (some (t215 == 5))) else (none))) else (none)) else (none)) else (none)) else (none)) else (none)))) else (none)) else (none)) else (none))))))))) = some r := h
 clear h
 obtain ⟨y188, hy188⟩ : ∃ y_ : List Int, y_ = (([1, 2, 1] : List Int)) := ⟨_, rfl⟩
 replace H : ((some (([1, 2] : List Int) : List Int)).bind fun y191 => ((some (([5, 6] : List Int) : List Int)).bind fun y194 => ((route_To.f k 3 y188 y191 y194 1).bind fun bt198 => ((route_Say.f k 3 y188 y191 y194 1 3 1).bind fun bt201 => ((route_Say.f k 3 y188 y191 y194 1 4 0).bind fun bt203 => ((route_Say.f k 3 y188 y191 y194 1 2 0).bind fun bt205 => (if bt198.1 = 2 then (if bt198.2.1 = 6 then (if bt198.2.2 = 0 then ((route_Mine.f k 3 y188 y191 y194 1).bind fun t207 => ((haywainref09_SameInts.f k t207 (([0, 2] : List Int))).bind fun t213 => (if t213 = true then (if bt201.1 = 4 then (if bt201.2 = 2 then (if bt203.1 = 2 then (if bt205.1 = 3 then ((route_Right.f k 3 y188 y191 y194).bind fun t214 => (if t214 = true then ((route_Inc.f k 3 y188 y191 y194 1).bind fun t215 => (some (t215 == 5))) else (none))) else (none)) else (none)) else (none)) else (none)) else (none)))) else (none)) else (none)) else (none)))))))) = some r := by first | (rw [hy188]; with_reducible exact H) | (have H2_ := (Option.bind_some _ _).symm.trans H; rw [hy188]; with_reducible exact H2_) | (have H2_ := (Option.bind_some _ _).symm.trans H; with_reducible exact H2_) | with_reducible exact H | (rw [hy188]; exact H) | exact H
 have Ny188 := Aside0.mk hy188
 clear hy188
 obtain ⟨y191, hy191⟩ : ∃ y_ : List Int, y_ = (([1, 2] : List Int)) := ⟨_, rfl⟩
 replace H : ((some (([5, 6] : List Int) : List Int)).bind fun y194 => ((route_To.f k 3 y188 y191 y194 1).bind fun bt198 => ((route_Say.f k 3 y188 y191 y194 1 3 1).bind fun bt201 => ((route_Say.f k 3 y188 y191 y194 1 4 0).bind fun bt203 => ((route_Say.f k 3 y188 y191 y194 1 2 0).bind fun bt205 => (if bt198.1 = 2 then (if bt198.2.1 = 6 then (if bt198.2.2 = 0 then ((route_Mine.f k 3 y188 y191 y194 1).bind fun t207 => ((haywainref09_SameInts.f k t207 (([0, 2] : List Int))).bind fun t213 => (if t213 = true then (if bt201.1 = 4 then (if bt201.2 = 2 then (if bt203.1 = 2 then (if bt205.1 = 3 then ((route_Right.f k 3 y188 y191 y194).bind fun t214 => (if t214 = true then ((route_Inc.f k 3 y188 y191 y194 1).bind fun t215 => (some (t215 == 5))) else (none))) else (none)) else (none)) else (none)) else (none)) else (none)))) else (none)) else (none)) else (none))))))) = some r := by first | (rw [hy191]; with_reducible exact H) | (have H2_ := (Option.bind_some _ _).symm.trans H; rw [hy191]; with_reducible exact H2_) | (have H2_ := (Option.bind_some _ _).symm.trans H; with_reducible exact H2_) | with_reducible exact H | (rw [hy191]; exact H) | exact H
 have Ny191 := Aside0.mk hy191
 clear hy191
 obtain ⟨y194, hy194⟩ : ∃ y_ : List Int, y_ = (([5, 6] : List Int)) := ⟨_, rfl⟩
 replace H : ((route_To.f k 3 y188 y191 y194 1).bind fun bt198 => ((route_Say.f k 3 y188 y191 y194 1 3 1).bind fun bt201 => ((route_Say.f k 3 y188 y191 y194 1 4 0).bind fun bt203 => ((route_Say.f k 3 y188 y191 y194 1 2 0).bind fun bt205 => (if bt198.1 = 2 then (if bt198.2.1 = 6 then (if bt198.2.2 = 0 then ((route_Mine.f k 3 y188 y191 y194 1).bind fun t207 => ((haywainref09_SameInts.f k t207 (([0, 2] : List Int))).bind fun t213 => (if t213 = true then (if bt201.1 = 4 then (if bt201.2 = 2 then (if bt203.1 = 2 then (if bt205.1 = 3 then ((route_Right.f k 3 y188 y191 y194).bind fun t214 => (if t214 = true then ((route_Inc.f k 3 y188 y191 y194 1).bind fun t215 => (some (t215 == 5))) else (none))) else (none)) else (none)) else (none)) else (none)) else (none)))) else (none)) else (none)) else (none)))))) = some r := by first | (rw [hy194]; with_reducible exact H) | (have H2_ := (Option.bind_some _ _).symm.trans H; rw [hy194]; with_reducible exact H2_) | (have H2_ := (Option.bind_some _ _).symm.trans H; with_reducible exact H2_) | with_reducible exact H | (rw [hy194]; exact H) | exact H
 have Ny194 := Aside0.mk hy194
 clear hy194
 replace H := Option.bind_eq_some_iff.mp H
 obtain ⟨⟨t198, t199, t200⟩, A10, H⟩ := H
 try dsimp only at H
 have A1 := Aside0.mk A10
 clear A10
 replace H := Option.bind_eq_some_iff.mp H
 obtain ⟨⟨t201, t202⟩, A20, H⟩ := H
 try dsimp only at H
 have A2 := Aside0.mk A20
 clear A20
 replace H := Option.bind_eq_some_iff.mp H
 obtain ⟨⟨t203, t204⟩, A30, H⟩ := H
 try dsimp only at H
 have A3 := Aside0.mk A30
 clear A30
 replace H := Option.bind_eq_some_iff.mp H
 obtain ⟨⟨t205, t206⟩, A40, H⟩ := H
 try dsimp only at H
 have A4 := Aside0.mk A40
 clear A40
 by_cases c5 : t198 = 2
 ·rw [if_pos c5] at H
  have c5b0 : (t198 == 2) = true := beq_iff_eq.mpr c5
  have c5b1 : (t198 != 2) = false := bne_eq_false_iff_eq.mpr c5
  clear c5
  by_cases c6 : t199 = 6
  ·rw [if_pos c6] at H
   have c6b0 : (t199 == 6) = true := beq_iff_eq.mpr c6
   have c6b1 : (t199 != 6) = false := bne_eq_false_iff_eq.mpr c6
   clear c6
   by_cases c7 : t200 = 0
   ·rw [if_pos c7] at H
    have c7b0 : (t200 == 0) = true := beq_iff_eq.mpr c7
    have c7b1 : (t200 != 0) = false := bne_eq_false_iff_eq.mpr c7
    clear c7
    replace H := Option.bind_eq_some_iff.mp H
    obtain ⟨t207, A80, H⟩ := H
    try dsimp only at H
    have A8 := Aside0.mk A80
    clear A80
    obtain ⟨y210, hy210⟩ : ∃ y_ : List Int, y_ = (([0, 2] : List Int)) := ⟨_, rfl⟩
    replace H : ((haywainref09_SameInts.f k t207 y210).bind fun t213 => (if t213 = true then (if t201 = 4 then (if t202 = 2 then (if t203 = 2 then (if t205 = 3 then ((route_Right.f k 3 y188 y191 y194).bind fun t214 => (if t214 = true then ((route_Inc.f k 3 y188 y191 y194 1).bind fun t215 => (some (t215 == 5))) else (none))) else (none)) else (none)) else (none)) else (none)) else (none))) = some r := by first | (rw [hy210]; with_reducible exact H) | (have H2_ := (Option.bind_some _ _).symm.trans H; rw [hy210]; with_reducible exact H2_) | (have H2_ := (Option.bind_some _ _).symm.trans H; with_reducible exact H2_) | with_reducible exact H | (rw [hy210]; exact H) | exact H
    have Ny210 := Aside0.mk hy210
    clear hy210
    replace H := Option.bind_eq_some_iff.mp H
    obtain ⟨t213, A90, H⟩ := H
    try dsimp only at H
    have A9 := Aside0.mk A90
    clear A90
    by_cases c10 : t213 = true
    ·subst c10
     rw [if_pos rfl] at H
     by_cases c11 : t201 = 4
     ·rw [if_pos c11] at H
      have c11b0 : (t201 == 4) = true := beq_iff_eq.mpr c11
      have c11b1 : (t201 != 4) = false := bne_eq_false_iff_eq.mpr c11
      clear c11
      by_cases c12 : t202 = 2
      ·rw [if_pos c12] at H
       have c12b0 : (t202 == 2) = true := beq_iff_eq.mpr c12
       have c12b1 : (t202 != 2) = false := bne_eq_false_iff_eq.mpr c12
       clear c12
       by_cases c13 : t203 = 2
       ·rw [if_pos c13] at H
        have c13b0 : (t203 == 2) = true := beq_iff_eq.mpr c13
        have c13b1 : (t203 != 2) = false := bne_eq_false_iff_eq.mpr c13
        clear c13
        by_cases c14 : t205 = 3
        ·rw [if_pos c14] at H
         have c14b0 : (t205 == 3) = true := beq_iff_eq.mpr c14
         have c14b1 : (t205 != 3) = false := bne_eq_false_iff_eq.mpr c14
         clear c14
         replace H := Option.bind_eq_some_iff.mp H
         obtain ⟨t214, A150, H⟩ := H
         try dsimp only at H
         have A15 := Aside0.mk A150
         clear A150
         by_cases c16 : t214 = true
         ·subst c16
          rw [if_pos rfl] at H
          replace H := Option.bind_eq_some_iff.mp H
          obtain ⟨t215, A170, H⟩ := H
          try dsimp only at H
          have A17 := Aside0.mk A170
          clear A170
          obtain rfl := Option.some.inj H
          go_enter Try.func10, Try.ntmps10
          go_wp2_with (first | ((with_reducible refine gate_dst (N := 11) rfl ?_); (try (refine gate_guard (by rfl) ?_; dsimp only)); refine Kd.R_lit (Kd.int .i64) _ 3 ?hg (N := 11) ?hd (xs := ([1, 2, 1] : List Int)) (inner := [.int .i64 1, .int .i64 2, .int .i64 1]) (ok := fun _ => True) (okp := fun _ => True) ?hr ?hp (fun _ hk => hk) trivial (Below.refl _ _) (Nat.le_refl _) (by simp) ?_; (case hd => rfl); (case hg => rfl); (case hr => first | (go_simp; done) | (go_simp; rfl)); (case hp => exact (Reps.one (show Kd.M (Kd.int .i64) _ _ _ 1 [.int .i64 1] from rfl) (Reps.one (show Kd.M (Kd.int .i64) _ _ _ 2 [.int .i64 2] from rfl) (Reps.one (show Kd.M (Kd.int .i64) _ _ _ 1 [.int .i64 1] from rfl) (Reps.none _ _))))); intro v189 w18 ho19 hb hg_ hnew_; clear hg_ hnew_; (first | rw [← Ny188.out] at ho19 | (simp only [Int.reduceToNat] at ho19; rw [← Ny188.out] at ho19)); have n0_ := Aside0.mk (Kd.R_lower ho19 (below_size (BW HB.out))); have n1_ := Aside0.mk (below_step (BW HB.out) hb); clear HB; have HO190 := n0_; have HB := n1_; clear n0_ n1_; clear hb ho19) | ((with_reducible refine gate_dst (N := 12) rfl ?_); (try (refine gate_guard (by rfl) ?_; dsimp only)); refine Kd.R_lit (Kd.int .i64) _ 3 ?hg (N := 12) ?hd (xs := ([1, 2] : List Int)) (inner := [.int .i64 1, .int .i64 2]) (ok := fun _ => True) (okp := fun _ => True) ?hr ?hp (fun _ hk => hk) trivial (Below.refl _ _) (Nat.le_refl _) (by simp) ?_; (case hd => rfl); (case hg => rfl); (case hr => first | (go_simp; done) | (go_simp; rfl)); (case hp => exact (Reps.one (show Kd.M (Kd.int .i64) _ _ _ 1 [.int .i64 1] from rfl) (Reps.one (show Kd.M (Kd.int .i64) _ _ _ 2 [.int .i64 2] from rfl) (Reps.none _ _)))); intro v192 w20 ho21 hb hg_ hnew_; clear hg_ hnew_; (first | rw [← Ny191.out] at ho21 | (simp only [Int.reduceToNat] at ho21; rw [← Ny191.out] at ho21)); have n0_ := Aside0.mk (Kd.R_elder' (Kd.RL HO190.out) (Kd.R_base ho21) hb); have n1_ := Aside0.mk (Kd.R_lower (Kd.R_new' ho21 (Kd.R_lt (Kd.RL HO190.out))) (below_size (BW HB.out))); have n2_ := Aside0.mk (below_step (BW HB.out) hb); clear HO190; clear HB; have HO190 := n0_; have HO193 := n1_; have HB := n2_; clear n0_ n1_ n2_; clear hb ho21) | ((with_reducible refine gate_dst (N := 13) rfl ?_); (try (refine gate_guard (by rfl) ?_; dsimp only)); refine Kd.R_lit (Kd.int .i64) _ 3 ?hg (N := 13) ?hd (xs := ([5, 6] : List Int)) (inner := [.int .i64 5, .int .i64 6]) (ok := fun _ => True) (okp := fun _ => True) ?hr ?hp (fun _ hk => hk) trivial (Below.refl _ _) (Nat.le_refl _) (by simp) ?_; (case hd => rfl); (case hg => rfl); (case hr => first | (go_simp; done) | (go_simp; rfl)); (case hp => exact (Reps.one (show Kd.M (Kd.int .i64) _ _ _ 5 [.int .i64 5] from rfl) (Reps.one (show Kd.M (Kd.int .i64) _ _ _ 6 [.int .i64 6] from rfl) (Reps.none _ _)))); intro v195 w22 ho23 hb hg_ hnew_; clear hg_ hnew_; (first | rw [← Ny194.out] at ho23 | (simp only [Int.reduceToNat] at ho23; rw [← Ny194.out] at ho23)); have n0_ := Aside0.mk (Kd.R_elder' (Kd.RL HO190.out) (Kd.R_base ho23) hb); have n1_ := Aside0.mk (Kd.R_elder' (Kd.RL HO193.out) (Kd.R_base ho23) hb); have n2_ := Aside0.mk (Kd.R_lower (Kd.R_new' (Kd.R_new' ho23 (Kd.R_lt (Kd.RL HO190.out))) (Kd.R_lt (Kd.RL HO193.out))) (below_size (BW HB.out))); have n3_ := Aside0.mk (below_step (BW HB.out) hb); clear HO190; clear HO193; clear HB; have HO190 := n0_; have HO193 := n1_; have HO196 := n2_; have HB := n3_; clear n0_ n1_ n2_ n3_; clear hb ho23; obtain ⟨Ao24, co24, eo24⟩ := Kd.R_slice HO196.out; subst eo24; obtain ⟨Ao25, co25, eo25⟩ := Kd.R_slice HO193.out; subst eo25; obtain ⟨Ao26, co26, eo26⟩ := Kd.R_slice HO190.out; subst eo26) | ((with_reducible refine gate_dst (N := 1) rfl ?_); (try (refine gate_guard (by rfl) ?_; dsimp only)); refine box_event ?hg (N := 1) ?hd (cs := #[.int .i64 0, .slice none 0 0, .slice none 0 0, .slice none 0 0]) (t := 24) ?hr ?_; (case hd => rfl); (case hg => rfl); (case hr => first | (go_simp; done) | (go_simp; rfl)); intro gb197 hg w27 hbox hb; have n0_ := Aside0.mk (Kd.R_below (Kd.RL HO190.out) hb); have n1_ := Aside0.mk (Kd.R_below (Kd.RL HO193.out) hb); have n2_ := Aside0.mk (Kd.R_below (Kd.RL HO196.out) hb); have n3_ := Aside0.mk (below_step (BW HB.out) hb); have n4_ := Aside0.mk (hbox); have n5_ := Aside0.mk ((by rw [hg]; exact (below_size (BW HB.out)) : w.heap.size ≤ gb197)); have n6_ := Aside0.mk ((by rw [hg]; exact (below_size (BW HB.out)) : w.heap.size ≤ gb197)); clear HO190; clear HO193; clear HO196; clear HB; have HO190 := n0_; have HO193 := n1_; have HO196 := n2_; have HB := n3_; have BK197 := n4_; have GW197 := n5_; have GE197 := n6_; clear n0_ n1_ n2_ n3_ n4_ n5_ n6_; clear hb hbox hg; have hcz28_0 : w27.cell? ⟨gb197, 0, none⟩ = some (.int .i64 0) := (blk_cell BK197.out 0).trans rfl; have hcz28_1 : w27.cell? ⟨gb197, 1, none⟩ = some (.slice none 0 0) := (blk_cell BK197.out 1).trans rfl; have hcz28_2 : w27.cell? ⟨gb197, 2, none⟩ = some (.slice none 0 0) := (blk_cell BK197.out 2).trans rfl; have hcz28_3 : w27.cell? ⟨gb197, 3, none⟩ = some (.slice none 0 0) := (blk_cell BK197.out 3).trans rfl; have hfz28_0 := blk_frozen BK197.out 0; have hfz28_1 := blk_frozen BK197.out 1; have hfz28_2 := blk_frozen BK197.out 2; have hfz28_3 := blk_frozen BK197.out 3) | ((with_reducible refine gate_callee (f := 19) rfl ?_); refine goesL_ (some 17) rfl rfl Try.func19 (by kernel_rfl) rfl #[.agg #[.int .i64 3, .slice Ao26 y188.length co26, .slice Ao25 y191.length co25, .slice Ao24 y194.length co24], .int .i64 1] rfl (by (try simp only [List.map_toArray, List.map_cons, List.map_nil]); first | done | rfl | (simp only [List.length_drop, List.length_take]; rfl)) ?_; (with_reducible refine (route_To.calls k 3 _ _ y188 _ _ y191 _ _ y194 1 t198 t199 t200 _ ?side1 ?side2 ?side3 ?side4 ?side5 ?side6 A1.out).mono ?_); (case side1 => refine (Kd.R_reads' (e := 3) (base := w.heap.size) (ok := fun k_ => ((True ∧ some k_ ≠ (.slice Ao25 y191.length co25 : Value).ownBlock) ∧ some k_ ≠ (.slice Ao24 y194.length co24 : Value).ownBlock)) (n := y188.length) (c := co26) ?_).2.2; exact (by apply Kd.RL; exact (Kd.RG (g := gb197) (Kd.R_types HO190.out BK197.out (by decide))))); (case side2 => exact (Kd.R_reads' HO190.out).2.1); (case side3 => refine (Kd.R_reads' (e := 3) (base := w.heap.size) (ok := fun k_ => ((True ∧ some k_ ≠ (.slice Ao26 y188.length co26 : Value).ownBlock) ∧ some k_ ≠ (.slice Ao24 y194.length co24 : Value).ownBlock)) (n := y191.length) (c := co25) ?_).2.2; exact (by apply Kd.RL; exact (Kd.RG (g := gb197) (Kd.R_types HO193.out BK197.out (by decide))))); (case side4 => exact (Kd.R_reads' HO193.out).2.1); (case side5 => refine (Kd.R_reads' (e := 3) (base := w.heap.size) (ok := fun k_ => ((True ∧ some k_ ≠ (.slice Ao26 y188.length co26 : Value).ownBlock) ∧ some k_ ≠ (.slice Ao25 y191.length co25 : Value).ownBlock)) (n := y194.length) (c := co24) ?_).2.2; exact (by apply Kd.RL; exact (Kd.RG (g := gb197) (Kd.R_types HO196.out BK197.out (by decide))))); (case side6 => exact (Kd.R_reads' HO196.out).2.1); rintro e w29 ⟨rfl, hb⟩; refine ⟨_, rfl, ?_⟩; have n0_ := Aside0.mk (Kd.R_below (by apply Kd.RL; exact (Kd.RG (g := gb197) (Kd.R_types HO190.out BK197.out (by decide)))) hb); have n1_ := Aside0.mk (Kd.R_below (by apply Kd.RL; exact (Kd.RG (g := gb197) (Kd.R_types HO193.out BK197.out (by decide)))) hb); have n2_ := Aside0.mk (Kd.R_below (by apply Kd.RL; exact (Kd.RG (g := gb197) (Kd.R_types HO196.out BK197.out (by decide)))) hb); have n3_ := Aside0.mk (blk_below (g := gb197) (o := .cells #[.int .i64 3, .slice Ao26 y188.length co26, .slice Ao25 y191.length co25, .slice Ao24 y194.length co24] 24 (0, 0)) (by apply BL; refine blk_put (cs := #[.int .i64 3, .slice Ao26 y188.length co26, .slice Ao25 y191.length co25, .slice none 0 0]) ?_ 3 _ rfl; apply BL; refine blk_put (cs := #[.int .i64 3, .slice Ao26 y188.length co26, .slice none 0 0, .slice none 0 0]) ?_ 2 _ rfl; apply BL; refine blk_put (cs := #[.int .i64 3, .slice none 0 0, .slice none 0 0, .slice none 0 0]) ?_ 1 _ rfl; apply BL; refine blk_put (cs := #[.int .i64 0, .slice none 0 0, .slice none 0 0, .slice none 0 0]) ?_ 0 _ rfl; apply BL; exact BK197.out) hb); have n4_ := Aside0.mk (below_step (by repeat (first | (with_reducible first | exact HB.out | apply below_alloc | apply pw_below_drewN | apply below_drew1 | refine below_set ?_ (Aside0.out (by assumption))) | exact HB.out)) hb); clear HO190; clear HO193; clear HO196; clear BK197; clear HB; have HO190 := n0_; have HO193 := n1_; have HO196 := n2_; have BK197 := n3_; have HB := n4_; clear n0_ n1_ n2_ n3_ n4_; (try clear hb); (try clear hb2); (try clear hk); (try clear hi); have hcz30_0 : w29.cell? ⟨gb197, 0, none⟩ = some (.int .i64 3) := (blk_cell BK197.out 0).trans rfl; have hcz30_1 : w29.cell? ⟨gb197, 1, none⟩ = some (.slice Ao26 y188.length co26) := (blk_cell BK197.out 1).trans rfl; have hcz30_2 : w29.cell? ⟨gb197, 2, none⟩ = some (.slice Ao25 y191.length co25) := (blk_cell BK197.out 2).trans rfl; have hcz30_3 : w29.cell? ⟨gb197, 3, none⟩ = some (.slice Ao24 y194.length co24) := (blk_cell BK197.out 3).trans rfl; have hfz30_0 := blk_frozen BK197.out 0; have hfz30_1 := blk_frozen BK197.out 1; have hfz30_2 := blk_frozen BK197.out 2; have hfz30_3 := blk_frozen BK197.out 3) | ((with_reducible refine gate_callee (f := 21) rfl ?_); refine goesL_ (some 23) rfl rfl Try.func21 (by kernel_rfl) rfl #[.agg #[.int .i64 3, .slice Ao26 y188.length co26, .slice Ao25 y191.length co25, .slice Ao24 y194.length co24], .int .i64 1, .int .i64 3, .int .i64 1] rfl (by (try simp only [List.map_toArray, List.map_cons, List.map_nil]); first | done | rfl | (simp only [List.length_drop, List.length_take]; rfl)) ?_; (with_reducible refine (route_Say.calls k 3 _ _ y188 _ _ y191 _ _ y194 1 3 1 t201 t202 _ ?side1 ?side2 ?side3 ?side4 ?side5 ?side6 A2.out).mono ?_); (case side1 => repeat (first | exact (Kd.R_reads' HO190.out).2.2 | (with_reducible refine Kd.C_alloc ?_ _) | (with_reducible refine Kd.C_drewN ?_ _) | (with_reducible refine Kd.C_drew ?_))); (case side2 => exact (Kd.R_reads' HO190.out).2.1); (case side3 => repeat (first | exact (Kd.R_reads' HO193.out).2.2 | (with_reducible refine Kd.C_alloc ?_ _) | (with_reducible refine Kd.C_drewN ?_ _) | (with_reducible refine Kd.C_drew ?_))); (case side4 => exact (Kd.R_reads' HO193.out).2.1); (case side5 => repeat (first | exact (Kd.R_reads' HO196.out).2.2 | (with_reducible refine Kd.C_alloc ?_ _) | (with_reducible refine Kd.C_drewN ?_ _) | (with_reducible refine Kd.C_drew ?_))); (case side6 => exact (Kd.R_reads' HO196.out).2.1); rintro e w31 ⟨rfl, hb⟩; refine ⟨_, rfl, ?_⟩; have n0_ := Aside0.mk (Kd.R_below (Kd.RL HO190.out) hb); have n1_ := Aside0.mk (Kd.R_below (Kd.RL HO193.out) hb); have n2_ := Aside0.mk (Kd.R_below (Kd.RL HO196.out) hb); have n3_ := Aside0.mk (blk_below (g := gb197) (o := .cells #[.int .i64 3, .slice Ao26 y188.length co26, .slice Ao25 y191.length co25, .slice Ao24 y194.length co24] 24 (0, 0)) (BL BK197.out) hb); have n4_ := Aside0.mk (below_step (by repeat (first | (with_reducible first | exact HB.out | apply below_alloc | apply pw_below_drewN | apply below_drew1 | refine below_set ?_ (Aside0.out (by assumption))) | exact HB.out)) hb); clear HO190; clear HO193; clear HO196; clear BK197; clear HB; have HO190 := n0_; have HO193 := n1_; have HO196 := n2_; have BK197 := n3_; have HB := n4_; clear n0_ n1_ n2_ n3_ n4_; (try clear hb); (try clear hb2); (try clear hk); (try clear hi); have hcz32_0 : w31.cell? ⟨gb197, 0, none⟩ = some (.int .i64 3) := (blk_cell BK197.out 0).trans rfl; have hcz32_1 : w31.cell? ⟨gb197, 1, none⟩ = some (.slice Ao26 y188.length co26) := (blk_cell BK197.out 1).trans rfl; have hcz32_2 : w31.cell? ⟨gb197, 2, none⟩ = some (.slice Ao25 y191.length co25) := (blk_cell BK197.out 2).trans rfl; have hcz32_3 : w31.cell? ⟨gb197, 3, none⟩ = some (.slice Ao24 y194.length co24) := (blk_cell BK197.out 3).trans rfl; have hfz32_0 := blk_frozen BK197.out 0; have hfz32_1 := blk_frozen BK197.out 1; have hfz32_2 := blk_frozen BK197.out 2; have hfz32_3 := blk_frozen BK197.out 3) | ((with_reducible refine gate_callee (f := 21) rfl ?_); refine goesL_ (some 28) rfl rfl Try.func21 (by kernel_rfl) rfl #[.agg #[.int .i64 3, .slice Ao26 y188.length co26, .slice Ao25 y191.length co25, .slice Ao24 y194.length co24], .int .i64 1, .int .i64 4, .int .i64 0] rfl (by (try simp only [List.map_toArray, List.map_cons, List.map_nil]); first | done | rfl | (simp only [List.length_drop, List.length_take]; rfl)) ?_; (with_reducible refine (route_Say.calls k 3 _ _ y188 _ _ y191 _ _ y194 1 4 0 t203 t204 _ ?side1 ?side2 ?side3 ?side4 ?side5 ?side6 A3.out).mono ?_); (case side1 => repeat (first | exact (Kd.R_reads' HO190.out).2.2 | (with_reducible refine Kd.C_alloc ?_ _) | (with_reducible refine Kd.C_drewN ?_ _) | (with_reducible refine Kd.C_drew ?_))); (case side2 => exact (Kd.R_reads' HO190.out).2.1); (case side3 => repeat (first | exact (Kd.R_reads' HO193.out).2.2 | (with_reducible refine Kd.C_alloc ?_ _) | (with_reducible refine Kd.C_drewN ?_ _) | (with_reducible refine Kd.C_drew ?_))); (case side4 => exact (Kd.R_reads' HO193.out).2.1); (case side5 => repeat (first | exact (Kd.R_reads' HO196.out).2.2 | (with_reducible refine Kd.C_alloc ?_ _) | (with_reducible refine Kd.C_drewN ?_ _) | (with_reducible refine Kd.C_drew ?_))); (case side6 => exact (Kd.R_reads' HO196.out).2.1); rintro e w33 ⟨rfl, hb⟩; refine ⟨_, rfl, ?_⟩; have n0_ := Aside0.mk (Kd.R_below (Kd.RL HO190.out) hb); have n1_ := Aside0.mk (Kd.R_below (Kd.RL HO193.out) hb); have n2_ := Aside0.mk (Kd.R_below (Kd.RL HO196.out) hb); have n3_ := Aside0.mk (blk_below (g := gb197) (o := .cells #[.int .i64 3, .slice Ao26 y188.length co26, .slice Ao25 y191.length co25, .slice Ao24 y194.length co24] 24 (0, 0)) (BL BK197.out) hb); have n4_ := Aside0.mk (below_step (by repeat (first | (with_reducible first | exact HB.out | apply below_alloc | apply pw_below_drewN | apply below_drew1 | refine below_set ?_ (Aside0.out (by assumption))) | exact HB.out)) hb); clear HO190; clear HO193; clear HO196; clear BK197; clear HB; have HO190 := n0_; have HO193 := n1_; have HO196 := n2_; have BK197 := n3_; have HB := n4_; clear n0_ n1_ n2_ n3_ n4_; (try clear hb); (try clear hb2); (try clear hk); (try clear hi); have hcz34_0 : w33.cell? ⟨gb197, 0, none⟩ = some (.int .i64 3) := (blk_cell BK197.out 0).trans rfl; have hcz34_1 : w33.cell? ⟨gb197, 1, none⟩ = some (.slice Ao26 y188.length co26) := (blk_cell BK197.out 1).trans rfl; have hcz34_2 : w33.cell? ⟨gb197, 2, none⟩ = some (.slice Ao25 y191.length co25) := (blk_cell BK197.out 2).trans rfl; have hcz34_3 : w33.cell? ⟨gb197, 3, none⟩ = some (.slice Ao24 y194.length co24) := (blk_cell BK197.out 3).trans rfl; have hfz34_0 := blk_frozen BK197.out 0; have hfz34_1 := blk_frozen BK197.out 1; have hfz34_2 := blk_frozen BK197.out 2; have hfz34_3 := blk_frozen BK197.out 3) | ((with_reducible refine gate_callee (f := 21) rfl ?_); refine goesL_ (some 33) rfl rfl Try.func21 (by kernel_rfl) rfl #[.agg #[.int .i64 3, .slice Ao26 y188.length co26, .slice Ao25 y191.length co25, .slice Ao24 y194.length co24], .int .i64 1, .int .i64 2, .int .i64 0] rfl (by (try simp only [List.map_toArray, List.map_cons, List.map_nil]); first | done | rfl | (simp only [List.length_drop, List.length_take]; rfl)) ?_; (with_reducible refine (route_Say.calls k 3 _ _ y188 _ _ y191 _ _ y194 1 2 0 t205 t206 _ ?side1 ?side2 ?side3 ?side4 ?side5 ?side6 A4.out).mono ?_); (case side1 => repeat (first | exact (Kd.R_reads' HO190.out).2.2 | (with_reducible refine Kd.C_alloc ?_ _) | (with_reducible refine Kd.C_drewN ?_ _) | (with_reducible refine Kd.C_drew ?_))); (case side2 => exact (Kd.R_reads' HO190.out).2.1); (case side3 => repeat (first | exact (Kd.R_reads' HO193.out).2.2 | (with_reducible refine Kd.C_alloc ?_ _) | (with_reducible refine Kd.C_drewN ?_ _) | (with_reducible refine Kd.C_drew ?_))); (case side4 => exact (Kd.R_reads' HO193.out).2.1); (case side5 => repeat (first | exact (Kd.R_reads' HO196.out).2.2 | (with_reducible refine Kd.C_alloc ?_ _) | (with_reducible refine Kd.C_drewN ?_ _) | (with_reducible refine Kd.C_drew ?_))); (case side6 => exact (Kd.R_reads' HO196.out).2.1); rintro e w35 ⟨rfl, hb⟩; refine ⟨_, rfl, ?_⟩; have n0_ := Aside0.mk (Kd.R_below (Kd.RL HO190.out) hb); have n1_ := Aside0.mk (Kd.R_below (Kd.RL HO193.out) hb); have n2_ := Aside0.mk (Kd.R_below (Kd.RL HO196.out) hb); have n3_ := Aside0.mk (blk_below (g := gb197) (o := .cells #[.int .i64 3, .slice Ao26 y188.length co26, .slice Ao25 y191.length co25, .slice Ao24 y194.length co24] 24 (0, 0)) (BL BK197.out) hb); have n4_ := Aside0.mk (below_step (by repeat (first | (with_reducible first | exact HB.out | apply below_alloc | apply pw_below_drewN | apply below_drew1 | refine below_set ?_ (Aside0.out (by assumption))) | exact HB.out)) hb); clear HO190; clear HO193; clear HO196; clear BK197; clear HB; have HO190 := n0_; have HO193 := n1_; have HO196 := n2_; have BK197 := n3_; have HB := n4_; clear n0_ n1_ n2_ n3_ n4_; (try clear hb); (try clear hb2); (try clear hk); (try clear hi); have hcz36_0 : w35.cell? ⟨gb197, 0, none⟩ = some (.int .i64 3) := (blk_cell BK197.out 0).trans rfl; have hcz36_1 : w35.cell? ⟨gb197, 1, none⟩ = some (.slice Ao26 y188.length co26) := (blk_cell BK197.out 1).trans rfl; have hcz36_2 : w35.cell? ⟨gb197, 2, none⟩ = some (.slice Ao25 y191.length co25) := (blk_cell BK197.out 2).trans rfl; have hcz36_3 : w35.cell? ⟨gb197, 3, none⟩ = some (.slice Ao24 y194.length co24) := (blk_cell BK197.out 3).trans rfl; have hfz36_0 := blk_frozen BK197.out 0; have hfz36_1 := blk_frozen BK197.out 1; have hfz36_2 := blk_frozen BK197.out 2; have hfz36_3 := blk_frozen BK197.out 3) | (go_at_call 17; (with_reducible refine (route_Mine.calls k 3 _ _ y188 _ _ y191 _ _ y194 1 t207 _ ?side1 ?side2 ?side3 ?side4 ?side5 ?side6 A8.out).mono ?_); (case side1 => repeat (first | exact (Kd.R_reads' HO190.out).2.2 | (with_reducible refine Kd.C_alloc ?_ _) | (with_reducible refine Kd.C_drewN ?_ _) | (with_reducible refine Kd.C_drew ?_))); (case side2 => exact (Kd.R_reads' HO190.out).2.1); (case side3 => repeat (first | exact (Kd.R_reads' HO193.out).2.2 | (with_reducible refine Kd.C_alloc ?_ _) | (with_reducible refine Kd.C_drewN ?_ _) | (with_reducible refine Kd.C_drew ?_))); (case side4 => exact (Kd.R_reads' HO193.out).2.1); (case side5 => repeat (first | exact (Kd.R_reads' HO196.out).2.2 | (with_reducible refine Kd.C_alloc ?_ _) | (with_reducible refine Kd.C_drewN ?_ _) | (with_reducible refine Kd.C_drew ?_))); (case side6 => exact (Kd.R_reads' HO196.out).2.1); rintro e w37 ⟨v208, rfl, ho0, hb⟩; have n0_ := Aside0.mk (Kd.R_elder' (Kd.RL HO190.out) (Kd.R_base ho0) hb); have n1_ := Aside0.mk (Kd.R_elder' (Kd.RL HO193.out) (Kd.R_base ho0) hb); have n2_ := Aside0.mk (Kd.R_elder' (Kd.RL HO196.out) (Kd.R_base ho0) hb); have n3_ := Aside0.mk (Kd.R_lower (Kd.R_new' (Kd.R_new' (Kd.R_new' ho0 (Kd.R_lt (Kd.RL HO190.out))) (Kd.R_lt (Kd.RL HO193.out))) (Kd.R_lt (Kd.RL HO196.out))) (below_size (by repeat (first | (with_reducible first | exact HB.out | apply below_alloc | apply pw_below_drewN | apply below_drew1 | refine below_set ?_ (Aside0.out (by assumption))) | exact HB.out)))); have n4_ := Aside0.mk (blk_below (g := gb197) (o := .cells #[.int .i64 3, .slice Ao26 y188.length co26, .slice Ao25 y191.length co25, .slice Ao24 y194.length co24] 24 (0, 0)) (BL BK197.out) hb); have n5_ := Aside0.mk (below_step (by repeat (first | (with_reducible first | exact HB.out | apply below_alloc | apply pw_below_drewN | apply below_drew1 | refine below_set ?_ (Aside0.out (by assumption))) | exact HB.out)) hb); clear HO190; clear HO193; clear HO196; clear BK197; clear HB; have HO190 := n0_; have HO193 := n1_; have HO196 := n2_; have HO209 := n3_; have BK197 := n4_; have HB := n5_; clear n0_ n1_ n2_ n3_ n4_ n5_; (try clear hb); (try clear hb2); (try clear hk); (try clear hi); (try clear ho0)) | ((with_reducible refine gate_dst (N := 49) rfl ?_); (try (refine gate_guard (by rfl) ?_; dsimp only)); refine Kd.R_lit (Kd.int .i64) _ 3 ?hg (N := 49) ?hd (xs := ([0, 2] : List Int)) (inner := [.int .i64 0, .int .i64 2]) (ok := fun _ => True) (okp := fun _ => True) ?hr ?hp (fun _ hk => hk) trivial (Below.refl _ _) (Nat.le_refl _) (by simp) ?_; (case hd => rfl); (case hg => rfl); (case hr => first | (go_simp; done) | (go_simp; rfl)); (case hp => exact (Reps.one (show Kd.M (Kd.int .i64) _ _ _ 0 [.int .i64 0] from rfl) (Reps.one (show Kd.M (Kd.int .i64) _ _ _ 2 [.int .i64 2] from rfl) (Reps.none _ _)))); intro v211 w38 ho39 hb hg_ hnew_; clear hg_ hnew_; (first | rw [← Ny210.out] at ho39 | (simp only [Int.reduceToNat] at ho39; rw [← Ny210.out] at ho39)); have n0_ := Aside0.mk (Kd.R_elder' (Kd.RL HO190.out) (Kd.R_base ho39) hb); have n1_ := Aside0.mk (Kd.R_elder' (Kd.RL HO193.out) (Kd.R_base ho39) hb); have n2_ := Aside0.mk (Kd.R_elder' (Kd.RL HO196.out) (Kd.R_base ho39) hb); have n3_ := Aside0.mk (Kd.R_elder' (Kd.RL HO209.out) (Kd.R_base ho39) hb); have n4_ := Aside0.mk (Kd.R_lower (Kd.R_new' (Kd.R_new' (Kd.R_new' (Kd.R_new' ho39 (Kd.R_lt (Kd.RL HO190.out))) (Kd.R_lt (Kd.RL HO193.out))) (Kd.R_lt (Kd.RL HO196.out))) (Kd.R_lt (Kd.RL HO209.out))) (below_size (by repeat (first | (with_reducible first | exact HB.out | apply below_alloc | apply pw_below_drewN | apply below_drew1 | refine below_set ?_ (Aside0.out (by assumption))) | exact HB.out)))); have n5_ := Aside0.mk (blk_below (g := gb197) (o := .cells #[.int .i64 3, .slice Ao26 y188.length co26, .slice Ao25 y191.length co25, .slice Ao24 y194.length co24] 24 (0, 0)) (BL BK197.out) hb); have n6_ := Aside0.mk (below_step (by repeat (first | (with_reducible first | exact HB.out | apply below_alloc | apply pw_below_drewN | apply below_drew1 | refine below_set ?_ (Aside0.out (by assumption))) | exact HB.out)) hb); clear HO190; clear HO193; clear HO196; clear HO209; clear BK197; clear HB; have HO190 := n0_; have HO193 := n1_; have HO196 := n2_; have HO209 := n3_; have HO212 := n4_; have BK197 := n5_; have HB := n6_; clear n0_ n1_ n2_ n3_ n4_ n5_ n6_; clear hb ho39; obtain ⟨Ao40, co40, eo40⟩ := Kd.R_slice HO209.out; subst eo40; obtain ⟨Ao41, co41, eo41⟩ := Kd.R_slice HO212.out; subst eo41) | (go_at_call 16; (with_reducible refine (haywainref09_SameInts.calls k _ _ t207 _ _ y210 true _ ?side1 ?side2 ?side3 ?side4 A9.out).mono ?_); (case side1 => repeat (first | exact (Kd.R_reads' HO209.out).2.2 | (with_reducible refine Kd.C_alloc ?_ _) | (with_reducible refine Kd.C_drewN ?_ _) | (with_reducible refine Kd.C_drew ?_))); (case side2 => exact (Kd.R_reads' HO209.out).2.1); (case side3 => repeat (first | exact (Kd.R_reads' HO212.out).2.2 | (with_reducible refine Kd.C_alloc ?_ _) | (with_reducible refine Kd.C_drewN ?_ _) | (with_reducible refine Kd.C_drew ?_))); (case side4 => exact (Kd.R_reads' HO212.out).2.1); rintro e w' ⟨rfl, ⟨nd, rfl⟩⟩; have hcz42_0 : w38.cell? ⟨gb197, 0, none⟩ = some (.int .i64 3) := (blk_cell BK197.out 0).trans rfl; have hcz42_1 : w38.cell? ⟨gb197, 1, none⟩ = some (.slice Ao26 y188.length co26) := (blk_cell BK197.out 1).trans rfl; have hcz42_2 : w38.cell? ⟨gb197, 2, none⟩ = some (.slice Ao25 y191.length co25) := (blk_cell BK197.out 2).trans rfl; have hcz42_3 : w38.cell? ⟨gb197, 3, none⟩ = some (.slice Ao24 y194.length co24) := (blk_cell BK197.out 3).trans rfl; have hfz42_0 := blk_frozen BK197.out 0; have hfz42_1 := blk_frozen BK197.out 1; have hfz42_2 := blk_frozen BK197.out 2; have hfz42_3 := blk_frozen BK197.out 3) | (go_at_call 11; (with_reducible refine (route_Right.calls k 3 _ _ y188 _ _ y191 _ _ y194 true _ ?side1 ?side2 ?side3 ?side4 ?side5 ?side6 A15.out).mono ?_); (case side1 => repeat (first | exact (Kd.R_reads' HO190.out).2.2 | (with_reducible refine Kd.C_alloc ?_ _) | (with_reducible refine Kd.C_drewN ?_ _) | (with_reducible refine Kd.C_drew ?_))); (case side2 => exact (Kd.R_reads' HO190.out).2.1); (case side3 => repeat (first | exact (Kd.R_reads' HO193.out).2.2 | (with_reducible refine Kd.C_alloc ?_ _) | (with_reducible refine Kd.C_drewN ?_ _) | (with_reducible refine Kd.C_drew ?_))); (case side4 => exact (Kd.R_reads' HO193.out).2.1); (case side5 => repeat (first | exact (Kd.R_reads' HO196.out).2.2 | (with_reducible refine Kd.C_alloc ?_ _) | (with_reducible refine Kd.C_drewN ?_ _) | (with_reducible refine Kd.C_drew ?_))); (case side6 => exact (Kd.R_reads' HO196.out).2.1); rintro e w43 ⟨rfl, hb⟩; have n0_ := Aside0.mk (Kd.R_below (Kd.RL HO190.out) hb); have n1_ := Aside0.mk (Kd.R_below (Kd.RL HO193.out) hb); have n2_ := Aside0.mk (Kd.R_below (Kd.RL HO196.out) hb); have n3_ := Aside0.mk (Kd.R_below (Kd.RL HO209.out) hb); have n4_ := Aside0.mk (Kd.R_below (Kd.RL HO212.out) hb); have n5_ := Aside0.mk (blk_below (g := gb197) (o := .cells #[.int .i64 3, .slice Ao26 y188.length co26, .slice Ao25 y191.length co25, .slice Ao24 y194.length co24] 24 (0, 0)) (BL BK197.out) hb); have n6_ := Aside0.mk (below_step (by repeat (first | (with_reducible first | exact HB.out | apply below_alloc | apply pw_below_drewN | apply below_drew1 | refine below_set ?_ (Aside0.out (by assumption))) | exact HB.out)) hb); clear HO190; clear HO193; clear HO196; clear HO209; clear HO212; clear BK197; clear HB; have HO190 := n0_; have HO193 := n1_; have HO196 := n2_; have HO209 := n3_; have HO212 := n4_; have BK197 := n5_; have HB := n6_; clear n0_ n1_ n2_ n3_ n4_ n5_ n6_; (try clear hb); (try clear hb2); (try clear hk); (try clear hi); have hcz44_0 : w43.cell? ⟨gb197, 0, none⟩ = some (.int .i64 3) := (blk_cell BK197.out 0).trans rfl; have hcz44_1 : w43.cell? ⟨gb197, 1, none⟩ = some (.slice Ao26 y188.length co26) := (blk_cell BK197.out 1).trans rfl; have hcz44_2 : w43.cell? ⟨gb197, 2, none⟩ = some (.slice Ao25 y191.length co25) := (blk_cell BK197.out 2).trans rfl; have hcz44_3 : w43.cell? ⟨gb197, 3, none⟩ = some (.slice Ao24 y194.length co24) := (blk_cell BK197.out 3).trans rfl; have hfz44_0 := blk_frozen BK197.out 0; have hfz44_1 := blk_frozen BK197.out 1; have hfz44_2 := blk_frozen BK197.out 2; have hfz44_3 := blk_frozen BK197.out 3) | (go_at_call 14; (with_reducible refine (route_Inc.calls k 3 _ _ y188 _ _ y191 _ _ y194 1 t215 _ ?side1 ?side2 ?side3 ?side4 ?side5 ?side6 A17.out).mono ?_); (case side1 => repeat (first | exact (Kd.R_reads' HO190.out).2.2 | (with_reducible refine Kd.C_alloc ?_ _) | (with_reducible refine Kd.C_drewN ?_ _) | (with_reducible refine Kd.C_drew ?_))); (case side2 => exact (Kd.R_reads' HO190.out).2.1); (case side3 => repeat (first | exact (Kd.R_reads' HO193.out).2.2 | (with_reducible refine Kd.C_alloc ?_ _) | (with_reducible refine Kd.C_drewN ?_ _) | (with_reducible refine Kd.C_drew ?_))); (case side4 => exact (Kd.R_reads' HO193.out).2.1); (case side5 => repeat (first | exact (Kd.R_reads' HO196.out).2.2 | (with_reducible refine Kd.C_alloc ?_ _) | (with_reducible refine Kd.C_drewN ?_ _) | (with_reducible refine Kd.C_drew ?_))); (case side6 => exact (Kd.R_reads' HO196.out).2.1); rintro e w45 ⟨rfl, hb⟩; have n0_ := Aside0.mk (Kd.R_below (Kd.RL HO190.out) hb); have n1_ := Aside0.mk (Kd.R_below (Kd.RL HO193.out) hb); have n2_ := Aside0.mk (Kd.R_below (Kd.RL HO196.out) hb); have n3_ := Aside0.mk (Kd.R_below (Kd.RL HO209.out) hb); have n4_ := Aside0.mk (Kd.R_below (Kd.RL HO212.out) hb); have n5_ := Aside0.mk (blk_below (g := gb197) (o := .cells #[.int .i64 3, .slice Ao26 y188.length co26, .slice Ao25 y191.length co25, .slice Ao24 y194.length co24] 24 (0, 0)) (BL BK197.out) hb); have n6_ := Aside0.mk (below_step (by repeat (first | (with_reducible first | exact HB.out | apply below_alloc | apply pw_below_drewN | apply below_drew1 | refine below_set ?_ (Aside0.out (by assumption))) | exact HB.out)) hb); clear HO190; clear HO193; clear HO196; clear HO209; clear HO212; clear BK197; clear HB; have HO190 := n0_; have HO193 := n1_; have HO196 := n2_; have HO209 := n3_; have HO212 := n4_; have BK197 := n5_; have HB := n6_; clear n0_ n1_ n2_ n3_ n4_ n5_ n6_; (try clear hb); (try clear hb2); (try clear hk); (try clear hi)))
          go_ret
          exact ⟨by first | rfl | (simp [errW_none, errW_some] <;> rfl) | (simp [*, errW_none, errW_some] <;> rfl), by repeat (first | (with_reducible first | exact HB.out | apply below_alloc | apply pw_below_drewN | apply below_drew1 | refine below_set ?_ (Aside0.out (by assumption))) | exact HB.out)⟩
         ·replace c16 := Bool.eq_false_iff.mpr c16
          subst c16
          rw [if_neg (show ¬ (false = true) by decide)] at H
          exact absurd H (by simp)
        ·rw [if_neg c14] at H
         exact absurd H (by simp)
       ·rw [if_neg c13] at H
        exact absurd H (by simp)
      ·rw [if_neg c12] at H
       exact absurd H (by simp)
     ·rw [if_neg c11] at H
      exact absurd H (by simp)
    ·replace c10 := Bool.eq_false_iff.mpr c10
     subst c10
     rw [if_neg (show ¬ (false = true) by decide)] at H
     exact absurd H (by simp)
   ·rw [if_neg c7] at H
    exact absurd H (by simp)
  ·rw [if_neg c6] at H
   exact absurd H (by simp)
 ·rw [if_neg c5] at H
  exact absurd H (by simp)

/-! ### haywainlaw17_as: function 13 -/
def haywainlaw17_as.f (a0_0 : Int) (l0_1 : List Int) (l0_2 : List Int) (l0_3 : List Int) : Option (Int × List Int × List Int × List Int) := some (a0_0, l0_1, l0_2, l0_3)
set_option maxHeartbeats 8000000 in
set_option maxRecDepth 100000 in
theorem haywainlaw17_as.calls (a0_0 : Int) (P0_1_ : Nat → Prop) (A0_1 : Option Addr) (c0_1 : Nat) (l0_1 : List Int) (P0_2_ : Nat → Prop) (A0_2 : Option Addr) (c0_2 : Nat) (l0_2 : List Int) (P0_3_ : Nat → Prop) (A0_3 : Option Addr) (c0_3 : Nat) (l0_3 : List Int) (r1 : Int) (r2 : List Int) (r3 : List Int) (r4 : List Int) (w : World) (hs0_1 : Kd.V (Kd.int .i64) 3 w w.heap.size (fun k_ => P0_1_ k_) (.slice A0_1 l0_1.length c0_1) l0_1) (hs0_2 : Kd.V (Kd.int .i64) 3 w w.heap.size (fun k_ => P0_2_ k_) (.slice A0_2 l0_2.length c0_2) l0_2) (hs0_3 : Kd.V (Kd.int .i64) 3 w w.heap.size (fun k_ => P0_3_ k_) (.slice A0_3 l0_3.length c0_3) l0_3) (h : haywainlaw17_as.f a0_0 l0_1 l0_2 l0_3 = some (r1, r2, r3, r4)) :
  Calls Try.prog 13 #[.agg #[.int .i64 a0_0, .slice A0_1 l0_1.length c0_1, .slice A0_2 l0_2.length c0_2, .slice A0_3 l0_3.length c0_3]] w fun e w' => ∃ v1_ v2_ v3_ : Value, e = .returned (.agg #[.int .i64 r1, v1_, v2_, v3_]) ∧ Kd.V (Kd.int .i64) 3 w' w.heap.size (fun k_ => ((P0_1_ k_ ∨ P0_2_ k_ ∨ P0_3_ k_) ∨ w.heap.size ≤ k_)) v1_ r2 ∧ Kd.V (Kd.int .i64) 3 w' w.heap.size (fun k_ => ((P0_1_ k_ ∨ P0_2_ k_ ∨ P0_3_ k_) ∨ w.heap.size ≤ k_)) v2_ r3 ∧ Kd.V (Kd.int .i64) 3 w' w.heap.size (fun k_ => ((P0_1_ k_ ∨ P0_2_ k_ ∨ P0_3_ k_) ∨ w.heap.size ≤ k_)) v3_ r4 ∧ Below w.heap.size w w' := by
 have hu24 := Try.underlying24
 have hu28 := Try.underlying28
 have HO0_1 := Aside0.mk (show Kd.V (Kd.int .i64) 3 w w.heap.size (fun k_ => ((P0_1_ k_ ∨ P0_2_ k_ ∨ P0_3_ k_) ∨ w.heap.size ≤ k_)) (.slice A0_1 l0_1.length c0_1) l0_1 from Kd.V_mono hs0_1 (fun k_ hk => .inl (.inl hk)))
 have HO0_2 := Aside0.mk (show Kd.V (Kd.int .i64) 3 w w.heap.size (fun k_ => ((P0_1_ k_ ∨ P0_2_ k_ ∨ P0_3_ k_) ∨ w.heap.size ≤ k_)) (.slice A0_2 l0_2.length c0_2) l0_2 from Kd.V_mono hs0_2 (fun k_ hk => .inl (.inr (.inl hk))))
 have HO0_3 := Aside0.mk (show Kd.V (Kd.int .i64) 3 w w.heap.size (fun k_ => ((P0_1_ k_ ∨ P0_2_ k_ ∨ P0_3_ k_) ∨ w.heap.size ≤ k_)) (.slice A0_3 l0_3.length c0_3) l0_3 from Kd.V_mono hs0_3 (fun k_ hk => .inl (.inr (.inr hk))))
 have HB := Aside0.mk (Below.refl w.heap.size w)
 have H : (some (a0_0, l0_1, l0_2, l0_3)) = some (r1, r2, r3, r4) := h
 clear h
 simp only [Option.some.injEq, Prod.mk.injEq] at H
 obtain ⟨rfl, rfl, rfl, rfl⟩ := H
 go_enter Try.func13, Try.ntmps13
 go_wp2_with (first | ((with_reducible refine gate_dst (N := 1) rfl ?_); refine box_event ?hg (N := 1) ?hd (cs := #[.int .i64 a0_0, .slice A0_1 l0_1.length c0_1, .slice A0_2 l0_2.length c0_2, .slice A0_3 l0_3.length c0_3]) (t := 24) ?hr ?_; (case hd => rfl); (case hg => rfl); (case hr => first | (go_simp; done) | (go_simp; rfl)); intro gb216 hg w2 hbox hb; have n0_ := Aside0.mk (Kd.V_below (Kd.V_elderB (Kd.VL HO0_1.out) gb216 (Nat.le_of_eq hg.symm)) hb); have n1_ := Aside0.mk (Kd.V_below (Kd.V_elderB (Kd.VL HO0_2.out) gb216 (Nat.le_of_eq hg.symm)) hb); have n2_ := Aside0.mk (Kd.V_below (Kd.V_elderB (Kd.VL HO0_3.out) gb216 (Nat.le_of_eq hg.symm)) hb); have n3_ := Aside0.mk (below_step (BW HB.out) hb); have n4_ := Aside0.mk (hbox); have n5_ := Aside0.mk ((by rw [hg]; exact (below_size (BW HB.out)) : w.heap.size ≤ gb216)); have n6_ := Aside0.mk ((by rw [hg]; exact (below_size (BW HB.out)) : w.heap.size ≤ gb216)); clear HO0_1; clear HO0_2; clear HO0_3; clear HB; have HO0_1 := n0_; have HO0_2 := n1_; have HO0_3 := n2_; have HB := n3_; have BK216 := n4_; have GW216 := n5_; have GE216 := n6_; clear n0_ n1_ n2_ n3_ n4_ n5_ n6_; clear hb hbox hg) | ((with_reducible refine gate_dst (N := 2) rfl ?_); refine box_event ?hg (N := 2) ?hd (cs := #[.int .i64 0, .slice none 0 0, .slice none 0 0, .slice none 0 0]) (t := 28) ?hr ?_; (case hd => rfl); (case hg => rfl); (case hr => first | (go_simp; done) | (go_simp; rfl)); intro gb217 hg w3 hbox hb; have n0_ := Aside0.mk (Kd.V_below (Kd.V_elderB (Kd.VL HO0_1.out) gb217 (Nat.le_of_eq hg.symm)) hb); have n1_ := Aside0.mk (Kd.V_below (Kd.V_elderB (Kd.VL HO0_2.out) gb217 (Nat.le_of_eq hg.symm)) hb); have n2_ := Aside0.mk (Kd.V_below (Kd.V_elderB (Kd.VL HO0_3.out) gb217 (Nat.le_of_eq hg.symm)) hb); have n3_ := Aside0.mk (blk_below (g := gb216) (o := .cells #[.int .i64 a0_0, .slice A0_1 l0_1.length c0_1, .slice A0_2 l0_2.length c0_2, .slice A0_3 l0_3.length c0_3] 24 (0, 0)) (BL BK216.out) hb); have n4_ := Aside0.mk (below_step (by repeat (first | (with_reducible first | exact HB.out | apply below_alloc | apply pw_below_drewN | apply below_drew1 | refine below_set ?_ (Aside0.out (by assumption))) | exact HB.out)) hb); have n5_ := Aside0.mk (hbox); have n6_ := Aside0.mk ((by rw [hg]; exact (below_size (by repeat (first | (with_reducible first | exact HB.out | apply below_alloc | apply pw_below_drewN | apply below_drew1 | refine below_set ?_ (Aside0.out (by assumption))) | exact HB.out))) : w.heap.size ≤ gb217)); have n7_ := Aside0.mk ((by rw [hg]; exact (below_size (by repeat (first | (with_reducible first | exact HB.out | apply below_alloc | apply pw_below_drewN | apply below_drew1 | refine below_set ?_ (Aside0.out (by assumption))) | exact HB.out))) : w.heap.size ≤ gb217)); have n8_ := Aside0.mk ((by rw [hg]; exact Nat.ne_of_lt (blk_lt (g := gb216) (o := .cells #[.int .i64 a0_0, .slice A0_1 l0_1.length c0_1, .slice A0_2 l0_2.length c0_2, .slice A0_3 l0_3.length c0_3] 24 (0, 0)) (BL BK216.out)) : gb216 ≠ gb217)); have n9_ := Aside0.mk ((by rw [hg]; exact Nat.ne_of_gt (blk_lt (g := gb216) (o := .cells #[.int .i64 a0_0, .slice A0_1 l0_1.length c0_1, .slice A0_2 l0_2.length c0_2, .slice A0_3 l0_3.length c0_3] 24 (0, 0)) (BL BK216.out)) : gb217 ≠ gb216)); clear HO0_1; clear HO0_2; clear HO0_3; clear BK216; clear HB; have HO0_1 := n0_; have HO0_2 := n1_; have HO0_3 := n2_; have BK216 := n3_; have HB := n4_; have BK217 := n5_; have GW217 := n6_; have GE217 := n7_; have NB216_217 := n8_; have NB217_216 := n9_; clear n0_ n1_ n2_ n3_ n4_ n5_ n6_ n7_ n8_ n9_; clear hb hbox hg; have hnb4 := NB216_217.out; have hnc4 := NB217_216.out; have hcz5_0 : w3.cell? ⟨gb216, 0, none⟩ = some (.int .i64 a0_0) := (blk_cell BK216.out 0).trans rfl; have hcz5_1 : w3.cell? ⟨gb216, 1, none⟩ = some (.slice A0_1 l0_1.length c0_1) := (blk_cell BK216.out 1).trans rfl; have hcz5_2 : w3.cell? ⟨gb216, 2, none⟩ = some (.slice A0_2 l0_2.length c0_2) := (blk_cell BK216.out 2).trans rfl; have hcz5_3 : w3.cell? ⟨gb216, 3, none⟩ = some (.slice A0_3 l0_3.length c0_3) := (blk_cell BK216.out 3).trans rfl; have hfz5_0 := blk_frozen BK216.out 0; have hfz5_1 := blk_frozen BK216.out 1; have hfz5_2 := blk_frozen BK216.out 2; have hfz5_3 := blk_frozen BK216.out 3; have hcz6_0 : w3.cell? ⟨gb217, 0, none⟩ = some (.int .i64 0) := (blk_cell BK217.out 0).trans rfl; have hcz6_1 : w3.cell? ⟨gb217, 1, none⟩ = some (.slice none 0 0) := (blk_cell BK217.out 1).trans rfl; have hcz6_2 : w3.cell? ⟨gb217, 2, none⟩ = some (.slice none 0 0) := (blk_cell BK217.out 2).trans rfl; have hcz6_3 : w3.cell? ⟨gb217, 3, none⟩ = some (.slice none 0 0) := (blk_cell BK217.out 3).trans rfl; have hfz6_0 := blk_frozen BK217.out 0; have hfz6_1 := blk_frozen BK217.out 1; have hfz6_2 := blk_frozen BK217.out 2; have hfz6_3 := blk_frozen BK217.out 3))
 refine bodyPost_ret (results_cell_row rfl _ _ gb217 28 #[.int .i64 a0_0, .slice A0_1 l0_1.length c0_1, .slice A0_2 l0_2.length c0_2, .slice A0_3 l0_3.length c0_3] (0, 0) _ rfl (by apply BL; refine blk_put (cs := #[.int .i64 a0_0, .slice A0_1 l0_1.length c0_1, .slice A0_2 l0_2.length c0_2, .slice none 0 0]) ?_ 3 _ rfl; apply BL; refine blk_put (cs := #[.int .i64 a0_0, .slice A0_1 l0_1.length c0_1, .slice none 0 0, .slice none 0 0]) ?_ 2 _ rfl; apply BL; refine blk_put (cs := #[.int .i64 a0_0, .slice none 0 0, .slice none 0 0, .slice none 0 0]) ?_ 1 _ rfl; apply BL; refine blk_put (cs := #[.int .i64 0, .slice none 0 0, .slice none 0 0, .slice none 0 0]) ?_ 0 _ rfl; apply BL; exact BK217.out) Try.underlying28 rfl (by kernel_rfl)) rfl ?_
 exact ⟨_, _, _, by first | rfl | (simp [errW_none, errW_some] <;> rfl) | (simp [*, errW_none, errW_some] <;> rfl), by apply Kd.VL; exact Kd.V_mono (Kd.V_far (p := ⟨gb217, 3, none⟩) (Kd.V_far (p := ⟨gb217, 2, none⟩) (Kd.V_far (p := ⟨gb217, 1, none⟩) (Kd.V_far (p := ⟨gb217, 0, none⟩) (Kd.V_mono HO0_1.out (fun k_ hk => (⟨hk, hk.2⟩ : _ ∧ k_ ≠ gb217))) (fun _ hk => hk.2) (.int .i64 a0_0)) (fun _ hk => hk.2) (.slice A0_1 l0_1.length c0_1)) (fun _ hk => hk.2) (.slice A0_2 l0_2.length c0_2)) (fun _ hk => hk.2) (.slice A0_3 l0_3.length c0_3)) (fun _ hk => hk.1.1.1), by apply Kd.VL; exact Kd.V_mono (Kd.V_far (p := ⟨gb217, 3, none⟩) (Kd.V_far (p := ⟨gb217, 2, none⟩) (Kd.V_far (p := ⟨gb217, 1, none⟩) (Kd.V_far (p := ⟨gb217, 0, none⟩) (Kd.V_mono HO0_2.out (fun k_ hk => (⟨hk, hk.2⟩ : _ ∧ k_ ≠ gb217))) (fun _ hk => hk.2) (.int .i64 a0_0)) (fun _ hk => hk.2) (.slice A0_1 l0_1.length c0_1)) (fun _ hk => hk.2) (.slice A0_2 l0_2.length c0_2)) (fun _ hk => hk.2) (.slice A0_3 l0_3.length c0_3)) (fun _ hk => hk.1.1.1), by apply Kd.VL; exact Kd.V_mono (Kd.V_far (p := ⟨gb217, 3, none⟩) (Kd.V_far (p := ⟨gb217, 2, none⟩) (Kd.V_far (p := ⟨gb217, 1, none⟩) (Kd.V_far (p := ⟨gb217, 0, none⟩) (Kd.V_mono HO0_3.out (fun k_ hk => (⟨hk, hk.2⟩ : _ ∧ k_ ≠ gb217))) (fun _ hk => hk.2) (.int .i64 a0_0)) (fun _ hk => hk.2) (.slice A0_1 l0_1.length c0_1)) (fun _ hk => hk.2) (.slice A0_2 l0_2.length c0_2)) (fun _ hk => hk.2) (.slice A0_3 l0_3.length c0_3)) (fun _ hk => hk.1.1.1), by repeat (first | (with_reducible first | exact HB.out | apply below_alloc | apply pw_below_drewN | apply below_drew1 | refine below_set ?_ (Aside0.out (by assumption))) | exact HB.out)⟩

/-! ### haywainref09_Has: function 23 -/
def haywainref09_Has.l0 : Nat → List Int → Int → Int → Option (Bool)
 | 0, _, _, _ => none
 | k + 1, x0, x1, x5 => if x5 < (x0.length : Int) then (if 0 ≤ x5 then (if (rd x0 x5) = x1 then (some true) else (haywainref09_Has.l0 k x0 x1 (wrap64 (x5 + 1)))) else (none)) else (some false)
def haywainref09_Has.f (k : Nat) (l0 : List Int) (a1 : Int) : Option (Bool) := haywainref09_Has.l0 k l0 a1 0
theorem haywainref09_Has.mono_l : ∀ k, (∀ y0 y1 y2, LeO (haywainref09_Has.l0 k y0 y1 y2) (haywainref09_Has.l0 (k + 1) y0 y1 y2))
 | 0 => fun _ _ _ r h => by simp [haywainref09_Has.l0] at h
 | k + 1 => by
  have ih0 := haywainref09_Has.mono_l k
  ·intro y0 y1 y2
   unfold haywainref09_Has.l0
   repeat' first
   | (with_reducible exact ih0 _ _ _)
   | (with_reducible exact LeO.refl _)
   | (with_reducible exact LeO.none _)
   | (with_reducible refine LeO.ite ?_ ?_)
   | (with_reducible refine LeO.bind ?_ (fun _ => ?_))
   | exact ih0 _ _ _
   | exact LeO.none _
   | refine LeO.ite ?_ ?_
   | refine LeO.bind ?_ (fun _ => ?_)
theorem haywainref09_Has.mono : ∀ a0 a1 k, LeO (haywainref09_Has.f k a0 a1) (haywainref09_Has.f (k + 1) a0 a1) := by
 intro a0 a1 k
 have ih0 := haywainref09_Has.mono_l k
 unfold haywainref09_Has.f
 repeat' first
   | (with_reducible exact ih0 _ _ _)
   | (with_reducible exact LeO.refl _)
   | (with_reducible exact LeO.none _)
   | (with_reducible refine LeO.ite ?_ ?_)
   | (with_reducible refine LeO.bind ?_ (fun _ => ?_))
   | exact ih0 _ _ _
   | exact LeO.none _
   | refine LeO.ite ?_ ?_
   | refine LeO.bind ?_ (fun _ => ?_)
set_option maxHeartbeats 8000000 in
set_option maxRecDepth 100000 in
theorem haywainref09_Has.calls (k : Nat) (A0 : Option Addr) (c0 : Nat) (l0 : List Int) (a1 : Int) (r : Bool) (w : World) (hr0 : Kd.C (Kd.int .i64) w A0 l0.length l0) (hc0 : l0.length ≤ c0) (h : haywainref09_Has.f k l0 a1 = some r) :
  Calls Try.prog 23 #[.slice A0 l0.length c0, .int .i64 a1] w fun e w' => e = .returned (.bool r) ∧ Drawn0 w w' := by
 have HR0 := Aside0.mk hr0
 have HC0 := Aside0.mk hc0
 clear hr0 hc0
 have H : (haywainref09_Has.l0 k l0 a1 0) = some r := h
 clear h
 have H' := Aside0.mk H
 clear H
 go_enter Try.func23, Try.ntmps23
 go_wp2
 go_loopg [5] k (fun kq v5 w' => ∃ (x5_1 : Int), v5 = .int .i64 x5_1 ∧ Aside0 (haywainref09_Has.l0 kq l0 a1 x5_1 = some r) ∧ Aside0 (kq ≤ k) ∧ Drawn0 w w')
 case atStart => exact ⟨(0), (by first | rfl | (simp; done) | (simp [*]; done)), H', ⟨Nat.le_refl _⟩, by repeat (first | exact Drawn0.refl _ | apply Drawn0.step)⟩
 case round =>
  clear H'
  try clear c2
  try clear p2
  obtain ⟨x5_1, rfl, HA, HK1, ⟨m1, rfl⟩⟩ := hrel
  cases gk with
  | zero => exact absurd HA.out (by simp [haywainref09_Has.l0])
  | succ k1 =>
   have H := HA.out
   clear HA
   simp only [haywainref09_Has.l0] at H
   by_cases c3 : x5_1 < (l0.length : Int)
   ·rw [if_pos c3] at H
    have c3b0 : decide (x5_1 < (l0.length : Int)) = true := decide_eq_true c3
    clear c3
    by_cases c4 : 0 ≤ x5_1
    ·rw [if_pos c4] at H
     have c4b0 : decide (0 ≤ x5_1) = true := decide_eq_true c4
     clear c4
     by_cases c5 : (rd l0 x5_1) = a1
     ·rw [if_pos c5] at H
      have c5b0 : ((rd l0 x5_1) == a1) = true := beq_iff_eq.mpr c5
      have c5b1 : ((rd l0 x5_1) != a1) = false := bne_eq_false_iff_eq.mpr c5
      clear c5
      obtain rfl := Option.some.inj H
      have p218 : 0 ≤ (x5_1 : Int) := of_decide_eq_true (by first | (with_reducible assumption) | assumption)
      have q218 : x5_1 < (l0.length : Int) := of_decide_eq_true (by first | (with_reducible assumption) | assumption)
      obtain ⟨ad218, e218, hx218_0⟩ := Kd.at_int HR0.out x5_1 p218 q218
      cases e218
      replace p218 := eq_true p218
      replace q218 := eq_true q218
      go_wp2
      go_ret
      exact ⟨by first | rfl | (simp; done) | (simp [*]; done), by repeat (first | exact Drawn0.refl _ | apply Drawn0.step)⟩
     ·rw [if_neg c5] at H
      have c5b0 : ((rd l0 x5_1) == a1) = false := beq_eq_false_iff_ne.mpr c5
      have c5b1 : ((rd l0 x5_1) != a1) = true := bne_iff_ne.mpr c5
      have H' := Aside0.mk H
      clear H
      have p218 : 0 ≤ (x5_1 : Int) := of_decide_eq_true (by first | (with_reducible assumption) | assumption)
      have q218 : x5_1 < (l0.length : Int) := of_decide_eq_true (by first | (with_reducible assumption) | assumption)
      obtain ⟨ad218, e218, hx218_0⟩ := Kd.at_int HR0.out x5_1 p218 q218
      cases e218
      replace p218 := eq_true p218
      replace q218 := eq_true q218
      go_wp2
      go_roundg k1
      case measure => have := HK1.out; omega
      case rel => exact ⟨(wrap64 (x5_1 + 1)), (by first | rfl | (simp; done) | (simp [*]; done)), H', ⟨by have := HK1.out; omega⟩, by repeat (first | exact Drawn0.refl _ | apply Drawn0.step)⟩
    ·rw [if_neg c4] at H
     exact absurd H (by simp)
   ·rw [if_neg c3] at H
    have c3b0 : decide (x5_1 < (l0.length : Int)) = false := decide_eq_false c3
    clear c3
    obtain rfl := Option.some.inj H
    go_wp2
    go_ret
    exact ⟨by first | rfl | (simp; done) | (simp [*]; done), by repeat (first | exact Drawn0.refl _ | apply Drawn0.step)⟩

end Go.Proofs.Ytaanojcdmojgbaa.PRouteN
