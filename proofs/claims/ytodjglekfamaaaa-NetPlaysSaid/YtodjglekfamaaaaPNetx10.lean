-- Printed for this claim by a turned copy of the print (wip/tools/patch.py); a text of this session, not of print.sh.
import Derived.Test.YtodjglekfamaaaaPNetx0
import Derived.Test.YtodjglekfamaaaaPNetx3
import Derived.Test.YtodjglekfamaaaaPNetx4
import Derived.Test.YtodjglekfamaaaaPNetx5
import Derived.Test.YtodjglekfamaaaaPNetx6
import Derived.Test.YtodjglekfamaaaaPNetx7
namespace Go.Proofs.Ytodjglekfamaaaa.PNet
open Go.RowKit Go.Proofs.YtodjglekfamaaaaW.PrintWords Go.Proofs.YtodjglekfamaaaaW.PrintLast Go.Proofs.YtodjglekfamaaaaW.PrintMore
attribute [local go_sem] max2_int min2_int max_two min_two max_three min_three max_four min_four   -- for this text's walks alone
set_option linter.unusedVariables false
set_option linter.unusedSimpArgs false

/-! ### haywainlaw22_NetPlays: function 4 -/
mutual
def haywainlaw22_NetPlays.l0 : Nat → List (S39) → List (S31) → Int → List (S23) → Option (Bool)
 | 0, _, _, _, _ => none
 | k + 1, x1, x5, x6, x318000 => if x6 < (x1.length : Int) then (haywainlaw22_NetPlays.j1 k x1 x5 x6 (decide (x6 < 30)) x318000) else (haywainlaw22_NetPlays.j1 k x1 x5 x6 false x318000)
def haywainlaw22_NetPlays.j1 : Nat → List (S39) → List (S31) → Int → Bool → List (S23) → Option (Bool)
 | 0, _, _, _, _, _ => none
 | k + 1, x1, x5, x6, x36, x318000 => if x36 = true then (if 0 ≤ x6 then (if x6 < (x1.length : Int) then ((haywainlaw22_great.f k ((rd_T39 x1 x6).f2)).bind fun t326 => (if t326 = true then (haywainlaw22_NetPlays.l0 k x1 x5 (wrap64 (x6 + 1)) x318000) else (if ((rd_T39 x1 x6).f0) = 0 then ((net_Send.f k x318000 ((rd_T39 x1 x6).f2)).bind fun bt327 => ((haywainlaw22_As.f k ((rd_T39 x1 x6).f2)).bind fun t332 => ((haywainref22_Send.f k x5 t332).bind fun bt335 => (if bt327.2 = bt335.2 then (haywainlaw22_NetPlays.j2 k x1 bt335.1 x6 bt327.1) else (none))))) else (if ((rd_T39 x1 x6).f0) = 1 then ((net_Give.f k x318000 ((rd_T39 x1 x6).f1)).bind fun bt339 => ((haywainref22_Give.f k x5 ((rd_T39 x1 x6).f1)).bind fun bt353 => (if bt339.2.2.2.2.2.2.2.2.2 = bt353.2.2.2.2.2.2.2.2.2 then ((haywainlaw22_As.f k (([(⟨bt339.2.1, bt339.2.2.1, bt339.2.2.2.1, bt339.2.2.2.2.1, bt339.2.2.2.2.2.1, bt339.2.2.2.2.2.2.1, bt339.2.2.2.2.2.2.2.1, bt339.2.2.2.2.2.2.2.2.1⟩ : S23)] : List (S23)))).bind fun t369 => ((haywainref22_Same.f k t369 (([(⟨bt353.2.1, bt353.2.2.1, bt353.2.2.2.1, bt353.2.2.2.2.1, bt353.2.2.2.2.2.1, bt353.2.2.2.2.2.2.1, bt353.2.2.2.2.2.2.2.1, bt353.2.2.2.2.2.2.2.2.1⟩ : S31)] : List (S31)))).bind fun t375 => (if t375 = true then (haywainlaw22_NetPlays.j2 k x1 bt353.1 x6 bt339.1) else (none)))) else (none)))) else ((net_Twice.f k x318000 ((rd_T39 x1 x6).f1)).bind fun bt376 => ((haywainref22_Twice.f k x5 ((rd_T39 x1 x6).f1)).bind fun bt381 => (if bt376.2 = bt381.2 then (haywainlaw22_NetPlays.j2 k x1 bt381.1 x6 bt376.1) else (none)))))))) else (none)) else (none)) else ((haywainlaw22_knows.f k).bind fun t323 => (some t323))
def haywainlaw22_NetPlays.j2 : Nat → List (S39) → List (S31) → Int → List (S23) → Option (Bool)
 | 0, _, _, _, _ => none
 | k + 1, x1, x5, x6, x318000 => (haywainlaw22_As.f k x318000).bind fun t385 => ((haywainref22_Same.f k t385 x5).bind fun t388 => (if t388 = true then (haywainlaw22_NetPlays.l0 k x1 x5 (wrap64 (x6 + 1)) x318000) else (none)))
end
def haywainlaw22_NetPlays.f (k : Nat) (l0_0 : List (S23)) (l1 : List (S39)) : Option (Bool) := (haywainlaw22_great.f k l0_0).bind fun t318 => (if t318 = true then ((haywainlaw22_knows.f k).bind fun t319 => (some t319)) else ((haywainlaw22_As.f k l0_0).bind fun t320 => (haywainlaw22_NetPlays.l0 k l1 t320 0 l0_0)))
theorem haywainlaw22_NetPlays.mono_l : ∀ k, (∀ y0 y1 y2 y3, LeO (haywainlaw22_NetPlays.l0 k y0 y1 y2 y3) (haywainlaw22_NetPlays.l0 (k + 1) y0 y1 y2 y3)) ∧ (∀ y0 y1 y2 y3 y4, LeO (haywainlaw22_NetPlays.j1 k y0 y1 y2 y3 y4) (haywainlaw22_NetPlays.j1 (k + 1) y0 y1 y2 y3 y4)) ∧ (∀ y0 y1 y2 y3, LeO (haywainlaw22_NetPlays.j2 k y0 y1 y2 y3) (haywainlaw22_NetPlays.j2 (k + 1) y0 y1 y2 y3))
 | 0 => ⟨fun _ _ _ _ r h => by simp [haywainlaw22_NetPlays.l0] at h, fun _ _ _ _ _ r h => by simp [haywainlaw22_NetPlays.j1] at h, fun _ _ _ _ r h => by simp [haywainlaw22_NetPlays.j2] at h⟩
 | k + 1 => by
  obtain ⟨ih0, ih1, ih2⟩ := haywainlaw22_NetPlays.mono_l k
  refine ⟨?_, ?_, ?_⟩
  ·intro y0 y1 y2 y3
   unfold haywainlaw22_NetPlays.l0
   repeat' first
   | (with_reducible exact ih0 _ _ _ _)
   | (with_reducible exact ih1 _ _ _ _ _)
   | (with_reducible exact ih2 _ _ _ _)
   | (with_reducible exact haywainlaw22_As.mono _ _)
   | (with_reducible exact haywainlaw22_great.mono _ _)
   | (with_reducible exact haywainlaw22_knows.mono _)
   | (with_reducible exact haywainref22_Give.mono _ _ _)
   | (with_reducible exact haywainref22_Same.mono _ _ _)
   | (with_reducible exact haywainref22_Send.mono _ _ _)
   | (with_reducible exact haywainref22_Twice.mono _ _ _)
   | (with_reducible exact net_Give.mono _ _ _)
   | (with_reducible exact net_Send.mono _ _ _)
   | (with_reducible exact net_Twice.mono _ _ _)
   | (with_reducible exact LeO.refl _)
   | (with_reducible exact LeO.none _)
   | (with_reducible refine LeO.ite ?_ ?_)
   | (with_reducible refine LeO.bind ?_ (fun _ => ?_))
   | exact ih0 _ _ _ _
   | exact ih1 _ _ _ _ _
   | exact ih2 _ _ _ _
   | exact haywainlaw22_As.mono _ _
   | exact haywainlaw22_great.mono _ _
   | exact haywainlaw22_knows.mono _
   | exact haywainref22_Give.mono _ _ _
   | exact haywainref22_Same.mono _ _ _
   | exact haywainref22_Send.mono _ _ _
   | exact haywainref22_Twice.mono _ _ _
   | exact net_Give.mono _ _ _
   | exact net_Send.mono _ _ _
   | exact net_Twice.mono _ _ _
   | exact LeO.none _
   | refine LeO.ite ?_ ?_
   | refine LeO.bind ?_ (fun _ => ?_)
  ·intro y0 y1 y2 y3 y4
   unfold haywainlaw22_NetPlays.j1
   repeat' first
   | (with_reducible exact ih0 _ _ _ _)
   | (with_reducible exact ih1 _ _ _ _ _)
   | (with_reducible exact ih2 _ _ _ _)
   | (with_reducible exact haywainlaw22_As.mono _ _)
   | (with_reducible exact haywainlaw22_great.mono _ _)
   | (with_reducible exact haywainlaw22_knows.mono _)
   | (with_reducible exact haywainref22_Give.mono _ _ _)
   | (with_reducible exact haywainref22_Same.mono _ _ _)
   | (with_reducible exact haywainref22_Send.mono _ _ _)
   | (with_reducible exact haywainref22_Twice.mono _ _ _)
   | (with_reducible exact net_Give.mono _ _ _)
   | (with_reducible exact net_Send.mono _ _ _)
   | (with_reducible exact net_Twice.mono _ _ _)
   | (with_reducible exact LeO.refl _)
   | (with_reducible exact LeO.none _)
   | (with_reducible refine LeO.ite ?_ ?_)
   | (with_reducible refine LeO.bind ?_ (fun _ => ?_))
   | exact ih0 _ _ _ _
   | exact ih1 _ _ _ _ _
   | exact ih2 _ _ _ _
   | exact haywainlaw22_As.mono _ _
   | exact haywainlaw22_great.mono _ _
   | exact haywainlaw22_knows.mono _
   | exact haywainref22_Give.mono _ _ _
   | exact haywainref22_Same.mono _ _ _
   | exact haywainref22_Send.mono _ _ _
   | exact haywainref22_Twice.mono _ _ _
   | exact net_Give.mono _ _ _
   | exact net_Send.mono _ _ _
   | exact net_Twice.mono _ _ _
   | exact LeO.none _
   | refine LeO.ite ?_ ?_
   | refine LeO.bind ?_ (fun _ => ?_)
  ·intro y0 y1 y2 y3
   unfold haywainlaw22_NetPlays.j2
   repeat' first
   | (with_reducible exact ih0 _ _ _ _)
   | (with_reducible exact ih1 _ _ _ _ _)
   | (with_reducible exact ih2 _ _ _ _)
   | (with_reducible exact haywainlaw22_As.mono _ _)
   | (with_reducible exact haywainlaw22_great.mono _ _)
   | (with_reducible exact haywainlaw22_knows.mono _)
   | (with_reducible exact haywainref22_Give.mono _ _ _)
   | (with_reducible exact haywainref22_Same.mono _ _ _)
   | (with_reducible exact haywainref22_Send.mono _ _ _)
   | (with_reducible exact haywainref22_Twice.mono _ _ _)
   | (with_reducible exact net_Give.mono _ _ _)
   | (with_reducible exact net_Send.mono _ _ _)
   | (with_reducible exact net_Twice.mono _ _ _)
   | (with_reducible exact LeO.refl _)
   | (with_reducible exact LeO.none _)
   | (with_reducible refine LeO.ite ?_ ?_)
   | (with_reducible refine LeO.bind ?_ (fun _ => ?_))
   | exact ih0 _ _ _ _
   | exact ih1 _ _ _ _ _
   | exact ih2 _ _ _ _
   | exact haywainlaw22_As.mono _ _
   | exact haywainlaw22_great.mono _ _
   | exact haywainlaw22_knows.mono _
   | exact haywainref22_Give.mono _ _ _
   | exact haywainref22_Same.mono _ _ _
   | exact haywainref22_Send.mono _ _ _
   | exact haywainref22_Twice.mono _ _ _
   | exact net_Give.mono _ _ _
   | exact net_Send.mono _ _ _
   | exact net_Twice.mono _ _ _
   | exact LeO.none _
   | refine LeO.ite ?_ ?_
   | refine LeO.bind ?_ (fun _ => ?_)
theorem haywainlaw22_NetPlays.mono : ∀ a0 a1 k, LeO (haywainlaw22_NetPlays.f k a0 a1) (haywainlaw22_NetPlays.f (k + 1) a0 a1) := by
 intro a0 a1 k
 obtain ⟨ih0, ih1, ih2⟩ := haywainlaw22_NetPlays.mono_l k
 unfold haywainlaw22_NetPlays.f
 repeat' first
   | (with_reducible exact ih0 _ _ _ _)
   | (with_reducible exact ih1 _ _ _ _ _)
   | (with_reducible exact ih2 _ _ _ _)
   | (with_reducible exact haywainlaw22_As.mono _ _)
   | (with_reducible exact haywainlaw22_great.mono _ _)
   | (with_reducible exact haywainlaw22_knows.mono _)
   | (with_reducible exact haywainref22_Give.mono _ _ _)
   | (with_reducible exact haywainref22_Same.mono _ _ _)
   | (with_reducible exact haywainref22_Send.mono _ _ _)
   | (with_reducible exact haywainref22_Twice.mono _ _ _)
   | (with_reducible exact net_Give.mono _ _ _)
   | (with_reducible exact net_Send.mono _ _ _)
   | (with_reducible exact net_Twice.mono _ _ _)
   | (with_reducible exact LeO.refl _)
   | (with_reducible exact LeO.none _)
   | (with_reducible refine LeO.ite ?_ ?_)
   | (with_reducible refine LeO.bind ?_ (fun _ => ?_))
   | exact ih0 _ _ _ _
   | exact ih1 _ _ _ _ _
   | exact ih2 _ _ _ _
   | exact haywainlaw22_As.mono _ _
   | exact haywainlaw22_great.mono _ _
   | exact haywainlaw22_knows.mono _
   | exact haywainref22_Give.mono _ _ _
   | exact haywainref22_Same.mono _ _ _
   | exact haywainref22_Send.mono _ _ _
   | exact haywainref22_Twice.mono _ _ _
   | exact net_Give.mono _ _ _
   | exact net_Send.mono _ _ _
   | exact net_Twice.mono _ _ _
   | exact LeO.none _
   | refine LeO.ite ?_ ?_
   | refine LeO.bind ?_ (fun _ => ?_)
def haywainlaw22_NetPlays.T24 : Bool × List (List Nat × List Nat) := (true, [([], []), ([], []), ([0, 1], [0, 1]), ([2], [2]), ([3], [3]), ([4, 3], [3, 4]), ([5, 3, 3], [3, 5]), ([3], [3]), ([7, 3], [3, 7]), ([6, 8, 6, 3], [3, 6, 8]), ([9, 3], [3, 9]), ([3, 10], [3, 10])])
def haywainlaw22_NetPlays.B24 : List Nat := [0, 0, 3, 7, 15, 31, 63, 15, 143, 511, 1023, 2047]
theorem haywainlaw22_NetPlays.tab24 : rtab .any (opsOf Try.f4 24) = haywainlaw22_NetPlays.T24 := by kernel_rfl
theorem haywainlaw22_NetPlays.bits24 : waitsOk haywainlaw22_NetPlays.T24.2 haywainlaw22_NetPlays.B24 = true := by kernel_rfl
set_option maxHeartbeats 8000000 in
set_option maxRecDepth 100000 in
theorem haywainlaw22_NetPlays.calls (k : Nat) (P0_0_ : Nat → Prop) (A0_0 : Option Addr) (c0_0 : Nat) (l0_0 : List (S23)) (A1 : Option Addr) (c1 : Nat) (l1 : List (S39)) (r : Bool) (w : World) (hs0_0 : Kd.V k23 23 w w.heap.size (fun k_ => P0_0_ k_) (.slice A0_0 l0_0.length c0_0) l0_0) (hr1 : Kd.C k39 w A1 l1.length l1) (hc1 : l1.length ≤ c1) (h : haywainlaw22_NetPlays.f k l0_0 l1 = some r) :
  Calls Try.prog 4 #[.agg #[.slice A0_0 l0_0.length c0_0], .slice A1 l1.length c1] w fun e w' => e = .returned (.bool r) ∧ Below w.heap.size w w' := by
 have hu26 := Try.underlying26
 have hu39 := Try.underlying39
 have hu23 := Try.underlying23
 have hu31 := Try.underlying31
 have HO0_0 := Aside0.mk (show Kd.V k23 23 w w.heap.size (fun k_ => (P0_0_ k_ ∨ w.heap.size ≤ k_)) (.slice A0_0 l0_0.length c0_0) l0_0 from Kd.V_mono hs0_0 (fun k_ hk => .inl hk))
 have HR1 := Aside0.mk hr1
 have HC1 := Aside0.mk hc1
 clear hr1 hc1
 have HB := Aside0.mk (Below.refl w.heap.size w)
 have H : ((haywainlaw22_great.f k l0_0).bind fun t318 => (if t318 = true then ((haywainlaw22_knows.f k).bind fun t319 => (some t319)) else ((haywainlaw22_As.f k l0_0).bind fun t320 => (haywainlaw22_NetPlays.l0 k l1 t320 0 l0_0)))) = some r := h
 clear h
 replace H := Option.bind_eq_some_iff.mp H
 obtain ⟨t318, A30, H⟩ := H
 replace H : (if t318 = true then ((haywainlaw22_knows.f k).bind fun t319 => (some t319)) else ((haywainlaw22_As.f k l0_0).bind fun t320 => (haywainlaw22_NetPlays.l0 k l1 t320 0 l0_0))) = some r := H
 have A3 := Aside0.mk A30
 clear A30
 by_cases c4 : t318 = true
 ·subst c4
  have H1 : ((haywainlaw22_knows.f k).bind fun t319 => (some t319)) = some r := by rw [if_pos rfl] at H; exact H
  clear H
  have H := H1
  clear H1
  replace H := Option.bind_eq_some_iff.mp H
  obtain ⟨t319, A50, H⟩ := H
  replace H : (some t319) = some r := H
  have A5 := Aside0.mk A50
  clear A50
  obtain rfl := Option.some.inj H
  go_enter Try.func4, Try.ntmps4
  go_wp2_with (first | ((with_reducible refine gate_dst (N := 2) rfl ?_); (try (refine gate_guard (by rfl) ?_; dsimp only)); refine box_event ?hg (N := 2) ?hd (cs := #[.slice A0_0 l0_0.length c0_0]) (t := 26) ?hr ?_; (case hd => rfl); (case hg => rfl); (case hr => first | (go_simp; done) | (go_simp; rfl)); intro gb317 hg w6 hbox hb; have n0_ := Aside0.mk (Kd.V_below (Kd.V_elderB (by (with_reducible repeat (first | apply Kd.V_alloc | apply Kd.V_drewN | apply Kd.V_drew)); exact HO0_0.out) gb317 (Nat.le_of_eq hg.symm)) hb); have n1_ := Aside0.mk (below_step (by repeat (first | (with_reducible first | exact HB.out | apply below_alloc | apply pw_below_drewN | apply below_drew1) | exact HB.out)) hb); have n2_ := Aside0.mk (hbox); have n3_ := Aside0.mk ((by rw [hg]; exact (below_size (by repeat (first | (with_reducible first | exact HB.out | apply below_alloc | apply pw_below_drewN | apply below_drew1) | exact HB.out))) : w.heap.size ≤ gb317)); have n4_ := Aside0.mk ((by rw [hg]; exact (below_size (by repeat (first | (with_reducible first | exact HB.out | apply below_alloc | apply pw_below_drewN | apply below_drew1) | exact HB.out))) : w.heap.size ≤ gb317)); clear HO0_0; clear HB; have HO0_0 := n0_; have HB := n1_; have BK317 := n2_; have GW317 := n3_; have GE317 := n4_; clear n0_ n1_ n2_ n3_ n4_; clear hb hbox hg; have hcz7_0 : w6.cell? ⟨gb317, 0, none⟩ = some (.slice A0_0 l0_0.length c0_0) := (blk_cell BK317.out 0).trans rfl; have hfz7_0 := blk_frozen BK317.out 0) | ((with_reducible refine gate_callee (f := 8) rfl ?_); refine goesL_ (some 24) rfl rfl Try.func8 (by kernel_rfl) rfl #[.slice A0_0 l0_0.length c0_0] rfl (by (try simp only [List.map_toArray, List.map_cons, List.map_nil]); first | done | rfl | (simp only [List.length_drop, List.length_take]; rfl)) ?_; (with_reducible refine (haywainlaw22_great.calls k _ _ l0_0 true _ ?side1 ?side2 A3.out).mono ?_); (case side1 => repeat (first | exact (Kd.V_reads' HO0_0.out).2.2 | (with_reducible refine Kd.C_alloc ?_ _) | (with_reducible refine Kd.C_drewN ?_ _) | (with_reducible refine Kd.C_drew ?_))); (case side2 => exact (Kd.V_reads' HO0_0.out).2.1); rintro e w' ⟨rfl, ⟨nd, rfl⟩⟩; refine ⟨_, rfl, ?_⟩) | ((with_reducible refine gate_callee (f := 9) rfl ?_); refine goesL_ (some 25) rfl rfl Try.func9 (by kernel_rfl) rfl #[] rfl (by (try simp only [List.map_toArray, List.map_cons, List.map_nil]); first | done | rfl | (simp only [List.length_drop, List.length_take]; rfl)) ?_; (with_reducible refine (haywainlaw22_knows.calls k  t319 _ A5.out).mono ?_); rintro e w8 ⟨rfl, hb⟩; refine ⟨_, rfl, ?_⟩; have n0_ := Aside0.mk (Kd.V_below (by (with_reducible repeat (first | apply Kd.V_alloc | apply Kd.V_drewN | apply Kd.V_drew)); exact HO0_0.out) hb); have n1_ := Aside0.mk (blk_below (g := gb317) (o := .cells #[.slice A0_0 l0_0.length c0_0] 26 (0, 0)) (by (with_reducible repeat (first | refine blk_drewN ?_ _ | refine blk_drew ?_ | refine blk_alloc ?_ _)); exact BK317.out) hb); have n2_ := Aside0.mk (below_step (by repeat (first | (with_reducible first | exact HB.out | apply below_alloc | apply pw_below_drewN | apply below_drew1 | refine below_set ?_ GE317.out) | exact HB.out)) hb); clear HO0_0; clear BK317; clear HB; have HO0_0 := n0_; have BK317 := n1_; have HB := n2_; clear n0_ n1_ n2_; (try clear hb); (try clear hb2); (try clear hk); (try clear hi)))
  go_ret
  exact ⟨by first | rfl | (simp [errW_none, errW_some] <;> rfl) | (simp [*, errW_none, errW_some] <;> rfl), by repeat (first | (with_reducible first | exact HB.out | apply below_alloc | apply pw_below_drewN | apply below_drew1 | refine below_set ?_ GE317.out) | exact HB.out)⟩
 ·replace c4 := Bool.eq_false_iff.mpr c4
  subst c4
  have H1 : ((haywainlaw22_As.f k l0_0).bind fun t320 => (haywainlaw22_NetPlays.l0 k l1 t320 0 l0_0)) = some r := by rw [if_neg (show ¬ (false = true) by decide)] at H; exact H
  clear H
  have H := H1
  clear H1
  replace H := Option.bind_eq_some_iff.mp H
  obtain ⟨t320, A90, H⟩ := H
  replace H : (haywainlaw22_NetPlays.l0 k l1 t320 0 l0_0) = some r := H
  have A9 := Aside0.mk A90
  clear A90
  have H' := Aside0.mk H
  clear H
  go_enter Try.func4, Try.ntmps4
  go_wp2_with (first | ((with_reducible refine gate_dst (N := 2) rfl ?_); (try (refine gate_guard (by rfl) ?_; dsimp only)); refine box_event ?hg (N := 2) ?hd (cs := #[.slice A0_0 l0_0.length c0_0]) (t := 26) ?hr ?_; (case hd => rfl); (case hg => rfl); (case hr => first | (go_simp; done) | (go_simp; rfl)); intro gb317 hg w10 hbox hb; have n0_ := Aside0.mk (Kd.V_below (Kd.V_elderB (by (with_reducible repeat (first | apply Kd.V_alloc | apply Kd.V_drewN | apply Kd.V_drew)); exact HO0_0.out) gb317 (Nat.le_of_eq hg.symm)) hb); have n1_ := Aside0.mk (below_step (by repeat (first | (with_reducible first | exact HB.out | apply below_alloc | apply pw_below_drewN | apply below_drew1) | exact HB.out)) hb); have n2_ := Aside0.mk (hbox); have n3_ := Aside0.mk ((by rw [hg]; exact (below_size (by repeat (first | (with_reducible first | exact HB.out | apply below_alloc | apply pw_below_drewN | apply below_drew1) | exact HB.out))) : w.heap.size ≤ gb317)); have n4_ := Aside0.mk ((by rw [hg]; exact (below_size (by repeat (first | (with_reducible first | exact HB.out | apply below_alloc | apply pw_below_drewN | apply below_drew1) | exact HB.out))) : w.heap.size ≤ gb317)); clear HO0_0; clear HB; have HO0_0 := n0_; have HB := n1_; have BK317 := n2_; have GW317 := n3_; have GE317 := n4_; clear n0_ n1_ n2_ n3_ n4_; clear hb hbox hg; have hcz11_0 : w10.cell? ⟨gb317, 0, none⟩ = some (.slice A0_0 l0_0.length c0_0) := (blk_cell BK317.out 0).trans rfl; have hfz11_0 := blk_frozen BK317.out 0) | ((with_reducible refine gate_callee (f := 8) rfl ?_); refine goesL_ (some 24) rfl rfl Try.func8 (by kernel_rfl) rfl #[.slice A0_0 l0_0.length c0_0] rfl (by (try simp only [List.map_toArray, List.map_cons, List.map_nil]); first | done | rfl | (simp only [List.length_drop, List.length_take]; rfl)) ?_; (with_reducible refine (haywainlaw22_great.calls k _ _ l0_0 false _ ?side1 ?side2 A3.out).mono ?_); (case side1 => repeat (first | exact (Kd.V_reads' HO0_0.out).2.2 | (with_reducible refine Kd.C_alloc ?_ _) | (with_reducible refine Kd.C_drewN ?_ _) | (with_reducible refine Kd.C_drew ?_))); (case side2 => exact (Kd.V_reads' HO0_0.out).2.1); rintro e w' ⟨rfl, ⟨nd, rfl⟩⟩; refine ⟨_, rfl, ?_⟩) | ((with_reducible refine gate_callee (f := 12) rfl ?_); refine goesL_ (some 28) rfl rfl Try.func12 (by kernel_rfl) rfl #[.slice A0_0 l0_0.length c0_0] rfl (by (try simp only [List.map_toArray, List.map_cons, List.map_nil]); first | done | rfl | (simp only [List.length_drop, List.length_take]; rfl)) ?_; (with_reducible refine (haywainlaw22_As.calls k _ _ l0_0 t320 _ ?side1 ?side2 A9.out).mono ?_); (case side1 => repeat (first | exact (Kd.V_reads' HO0_0.out).2.2 | (with_reducible refine Kd.C_alloc ?_ _) | (with_reducible refine Kd.C_drewN ?_ _) | (with_reducible refine Kd.C_drew ?_))); (case side2 => exact (Kd.V_reads' HO0_0.out).2.1); rintro e w12 ⟨v321, rfl, ho0, hb⟩; refine ⟨_, rfl, ?_⟩; have n0_ := Aside0.mk (Kd.V_elder' (by (with_reducible repeat (first | apply Kd.V_alloc | apply Kd.V_drewN | apply Kd.V_drew)); exact HO0_0.out) (Kd.R_base ho0) hb); have n1_ := Aside0.mk (Kd.R_lower (Kd.R_newM (M := fun k_ => (w.heap.size ≤ k_)) ho0 (below_size (by repeat (first | (with_reducible first | exact HB.out | apply below_alloc | apply pw_below_drewN | apply below_drew1 | refine below_set ?_ GE317.out) | exact HB.out))) (fun k_ h_ => h_)) (below_size (by repeat (first | (with_reducible first | exact HB.out | apply below_alloc | apply pw_below_drewN | apply below_drew1 | refine below_set ?_ GE317.out) | exact HB.out)))); have n2_ := Aside0.mk (blk_below (g := gb317) (o := .cells #[.slice A0_0 l0_0.length c0_0] 26 (0, 0)) (by (with_reducible repeat (first | refine blk_drewN ?_ _ | refine blk_drew ?_ | refine blk_alloc ?_ _)); exact BK317.out) hb); have n3_ := Aside0.mk (below_step (by repeat (first | (with_reducible first | exact HB.out | apply below_alloc | apply pw_below_drewN | apply below_drew1 | refine below_set ?_ GE317.out) | exact HB.out)) hb); clear HO0_0; clear BK317; clear HB; have HO0_0 := n0_; have HO322 := n1_; have BK317 := n2_; have HB := n3_; clear n0_ n1_ n2_ n3_; (try clear hb); (try clear hb2); (try clear hk); (try clear hi); (try clear ho0)))
  go_loopg [5, 6] k (fun kq v5 v6 w' => ∃ (x5_1 : List (S31)) (x6_1 : Int) (x318000_1 : List (S23)) (u318000 : Value), v6 = .int .i64 x6_1 ∧ Aside0 (haywainlaw22_NetPlays.l0 kq l1 x5_1 x6_1 x318000_1 = some r) ∧ Aside0 (kq ≤ k) ∧ Aside0 (Kd.V k31 31 w' w.heap.size (fun k_ => (P0_0_ k_ ∨ w.heap.size ≤ k_) ∧ k_ ≠ gb317) v5 x5_1) ∧ Aside0 (Kd.V k23 23 w' w.heap.size (fun k_ => (P0_0_ k_ ∨ w.heap.size ≤ k_) ∧ k_ ≠ gb317) u318000 x318000_1) ∧ Aside0 (w'.heap[gb317]? = some (.cells #[u318000] 26 (0, 0))) ∧ Aside0 (Below w.heap.size w w'))
  case atStart => exact ⟨(t320), (0), (l0_0), (.slice A0_0 l0_0.length c0_0), (by first | rfl | (simp; done) | (simp [*]; done)), H', ⟨Nat.le_refl _⟩, ⟨Kd.V_mono (Kd.R_V (by (with_reducible repeat (first | apply Kd.R_alloc | apply Kd.R_drewN | apply Kd.R_drew)); exact (Kd.R_types HO322.out BK317.out (by decide)))) (fun k_ hk => by first | exact ⟨(.inr (hk.1.1)), hk.2⟩ | exact ⟨(.inr (hk.1)), hk.2⟩ | exact (.inr (hk)))⟩, ⟨by (with_reducible repeat (first | apply Kd.V_alloc | apply Kd.V_drewN | apply Kd.V_drew)); exact Kd.V_mono HO0_0.out (fun _ hk => ⟨hk.1.1, hk.1.2⟩)⟩, ⟨by (with_reducible repeat (first | refine blk_drewN ?_ _ | refine blk_drew ?_ | refine blk_alloc ?_ _)); exact BK317.out⟩, ⟨by repeat (first | (with_reducible first | exact HB.out | apply below_alloc | apply pw_below_drewN | apply below_drew1 | refine below_set ?_ GE317.out) | exact HB.out)⟩⟩
  case round =>
   clear H'
   try clear c1
   try clear p2
   try clear c4
   try clear c8
   try clear c9
   try clear c12
   try clear hcz11_0
   try clear hcz7_0
   try clear hfz11_0
   try clear hfz7_0
   obtain ⟨x5_1, x6_1, x318000_1, u318000, rfl, HA, HK1, HO_5, HO_318000, BK317, HB⟩ := hrel
   cases gk with
   | zero => exact absurd HA.out (by simp [haywainlaw22_NetPlays.l0])
   | succ k1 =>
    have H := HA.out
    clear HA
    simp only [haywainlaw22_NetPlays.l0] at H
    have HC13 := Aside0.mk H
    clear H
    go_upto_region 5 with (fail)
    go_cut [36] (fun v36 wc => ∃ (kq : Nat) (x36_12 : Bool), v36 = .bool x36_12 ∧ Aside0 (haywainlaw22_NetPlays.j1 kq l1 x5_1 x6_1 x36_12 x318000_1 = some r) ∧ Aside0 (kq ≤ k1) ∧ Aside0 (Kd.V k31 31 wc w.heap.size (fun k_ => (P0_0_ k_ ∨ w.heap.size ≤ k_) ∧ k_ ≠ gb317) u5 x5_1) ∧ Aside0 (Kd.V k23 23 wc w.heap.size (fun k_ => (P0_0_ k_ ∨ w.heap.size ≤ k_) ∧ k_ ≠ gb317) u318000 x318000_1) ∧ Aside0 (wc.heap[gb317]? = some (.cells #[u318000] 26 (0, 0))) ∧ Aside0 (Below w.heap.size w wc))
    case first =>
     have H := HC13.out
     clear HC13
     by_cases c14 : x6_1 < (l1.length : Int)
     ·rw [if_pos c14] at H
      have c14b0 : decide (x6_1 < (l1.length : Int)) = true := decide_eq_true c14
      clear c14
      (first | rw [c14b0] | (simp only [i64_w, i32_w]; rw [c14b0]) | skip)
      have H' := Aside0.mk H
      clear H
      go_wp2
      go_meet
      case rel => exact ⟨_, (decide (x6_1 < 30)), (by first | rfl | (simp; done) | (simp [*]; done)), H', ⟨by have := HK1.out; first | omega | exact Nat.le_refl _⟩, ⟨by (with_reducible repeat (first | apply Kd.V_alloc | apply Kd.V_drewN | apply Kd.V_drew)); exact HO_5.out⟩, ⟨by (with_reducible repeat (first | apply Kd.V_alloc | apply Kd.V_drewN | apply Kd.V_drew)); exact HO_318000.out⟩, ⟨by (with_reducible repeat (first | refine blk_drewN ?_ _ | refine blk_drew ?_ | refine blk_alloc ?_ _)); exact BK317.out⟩, ⟨by repeat (first | (with_reducible first | exact HB.out | apply below_alloc | apply pw_below_drewN | apply below_drew1 | refine below_set ?_ GE317.out) | exact HB.out)⟩⟩
     ·rw [if_neg c14] at H
      have c14b0 : decide (x6_1 < (l1.length : Int)) = false := decide_eq_false c14
      clear c14
      (first | rw [c14b0] | (simp only [i64_w, i32_w]; rw [c14b0]) | skip)
      have H' := Aside0.mk H
      clear H
      go_wp2
      go_meet
      case rel => exact ⟨_, (false), (by first | rfl | (simp; done) | (simp [*]; done)), H', ⟨by have := HK1.out; first | omega | exact Nat.le_refl _⟩, ⟨by (with_reducible repeat (first | apply Kd.V_alloc | apply Kd.V_drewN | apply Kd.V_drew)); exact HO_5.out⟩, ⟨by (with_reducible repeat (first | apply Kd.V_alloc | apply Kd.V_drewN | apply Kd.V_drew)); exact HO_318000.out⟩, ⟨by (with_reducible repeat (first | refine blk_drewN ?_ _ | refine blk_drew ?_ | refine blk_alloc ?_ _)); exact BK317.out⟩, ⟨by repeat (first | (with_reducible first | exact HB.out | apply below_alloc | apply pw_below_drewN | apply below_drew1 | refine below_set ?_ GE317.out) | exact HB.out)⟩⟩
    case rest =>
     clear HC13
     try clear c1
     try clear p2
     try clear c4
     try clear c8
     try clear c9
     try clear c12
     try clear c14
     try clear c14b0
     try clear hcz11_0
     try clear hcz7_0
     try clear hfz11_0
     try clear hfz7_0
     try clear p2
     obtain ⟨kq, x36_12, rfl, HA, HJ12, HO_5, HO_318000, BK317, HB⟩ := hcut
     cases kq with
     | zero => exact absurd HA.out (by simp [haywainlaw22_NetPlays.j1])
     | succ kj12 =>
      have H := HA.out
      clear HA
      simp only [haywainlaw22_NetPlays.j1] at H
      by_cases c15 : x36_12 = true
      ·subst c15
       have H1 : (if 0 ≤ x6_1 then (if x6_1 < (l1.length : Int) then ((haywainlaw22_great.f kj12 ((rd_T39 l1 x6_1).f2)).bind fun t326 => (if t326 = true then (haywainlaw22_NetPlays.l0 kj12 l1 x5_1 (wrap64 (x6_1 + 1)) x318000_1) else (if ((rd_T39 l1 x6_1).f0) = 0 then ((net_Send.f kj12 x318000_1 ((rd_T39 l1 x6_1).f2)).bind fun bt327 => ((haywainlaw22_As.f kj12 ((rd_T39 l1 x6_1).f2)).bind fun t332 => ((haywainref22_Send.f kj12 x5_1 t332).bind fun bt335 => (if bt327.2 = bt335.2 then (haywainlaw22_NetPlays.j2 kj12 l1 bt335.1 x6_1 bt327.1) else (none))))) else (if ((rd_T39 l1 x6_1).f0) = 1 then ((net_Give.f kj12 x318000_1 ((rd_T39 l1 x6_1).f1)).bind fun bt339 => ((haywainref22_Give.f kj12 x5_1 ((rd_T39 l1 x6_1).f1)).bind fun bt353 => (if bt339.2.2.2.2.2.2.2.2.2 = bt353.2.2.2.2.2.2.2.2.2 then ((haywainlaw22_As.f kj12 (([(⟨bt339.2.1, bt339.2.2.1, bt339.2.2.2.1, bt339.2.2.2.2.1, bt339.2.2.2.2.2.1, bt339.2.2.2.2.2.2.1, bt339.2.2.2.2.2.2.2.1, bt339.2.2.2.2.2.2.2.2.1⟩ : S23)] : List (S23)))).bind fun t369 => ((haywainref22_Same.f kj12 t369 (([(⟨bt353.2.1, bt353.2.2.1, bt353.2.2.2.1, bt353.2.2.2.2.1, bt353.2.2.2.2.2.1, bt353.2.2.2.2.2.2.1, bt353.2.2.2.2.2.2.2.1, bt353.2.2.2.2.2.2.2.2.1⟩ : S31)] : List (S31)))).bind fun t375 => (if t375 = true then (haywainlaw22_NetPlays.j2 kj12 l1 bt353.1 x6_1 bt339.1) else (none)))) else (none)))) else ((net_Twice.f kj12 x318000_1 ((rd_T39 l1 x6_1).f1)).bind fun bt376 => ((haywainref22_Twice.f kj12 x5_1 ((rd_T39 l1 x6_1).f1)).bind fun bt381 => (if bt376.2 = bt381.2 then (haywainlaw22_NetPlays.j2 kj12 l1 bt381.1 x6_1 bt376.1) else (none)))))))) else (none)) else (none)) = some r := by rw [if_pos rfl] at H; exact H
       clear H
       have H := H1
       clear H1
       by_cases c16 : 0 ≤ x6_1
       ·rw [if_pos c16] at H
        have c16b0 : decide (0 ≤ x6_1) = true := decide_eq_true c16
        clear c16
        by_cases c17 : x6_1 < (l1.length : Int)
        ·rw [if_pos c17] at H
         have c17b0 : decide (x6_1 < (l1.length : Int)) = true := decide_eq_true c17
         clear c17
         replace H := Option.bind_eq_some_iff.mp H
         obtain ⟨t326, A180, H⟩ := H
         replace H : (if t326 = true then (haywainlaw22_NetPlays.l0 kj12 l1 x5_1 (wrap64 (x6_1 + 1)) x318000_1) else (if ((rd_T39 l1 x6_1).f0) = 0 then ((net_Send.f kj12 x318000_1 ((rd_T39 l1 x6_1).f2)).bind fun bt327 => ((haywainlaw22_As.f kj12 ((rd_T39 l1 x6_1).f2)).bind fun t332 => ((haywainref22_Send.f kj12 x5_1 t332).bind fun bt335 => (if bt327.2 = bt335.2 then (haywainlaw22_NetPlays.j2 kj12 l1 bt335.1 x6_1 bt327.1) else (none))))) else (if ((rd_T39 l1 x6_1).f0) = 1 then ((net_Give.f kj12 x318000_1 ((rd_T39 l1 x6_1).f1)).bind fun bt339 => ((haywainref22_Give.f kj12 x5_1 ((rd_T39 l1 x6_1).f1)).bind fun bt353 => (if bt339.2.2.2.2.2.2.2.2.2 = bt353.2.2.2.2.2.2.2.2.2 then ((haywainlaw22_As.f kj12 (([(⟨bt339.2.1, bt339.2.2.1, bt339.2.2.2.1, bt339.2.2.2.2.1, bt339.2.2.2.2.2.1, bt339.2.2.2.2.2.2.1, bt339.2.2.2.2.2.2.2.1, bt339.2.2.2.2.2.2.2.2.1⟩ : S23)] : List (S23)))).bind fun t369 => ((haywainref22_Same.f kj12 t369 (([(⟨bt353.2.1, bt353.2.2.1, bt353.2.2.2.1, bt353.2.2.2.2.1, bt353.2.2.2.2.2.1, bt353.2.2.2.2.2.2.1, bt353.2.2.2.2.2.2.2.1, bt353.2.2.2.2.2.2.2.2.1⟩ : S31)] : List (S31)))).bind fun t375 => (if t375 = true then (haywainlaw22_NetPlays.j2 kj12 l1 bt353.1 x6_1 bt339.1) else (none)))) else (none)))) else ((net_Twice.f kj12 x318000_1 ((rd_T39 l1 x6_1).f1)).bind fun bt376 => ((haywainref22_Twice.f kj12 x5_1 ((rd_T39 l1 x6_1).f1)).bind fun bt381 => (if bt376.2 = bt381.2 then (haywainlaw22_NetPlays.j2 kj12 l1 bt381.1 x6_1 bt376.1) else (none))))))) = some r := H
         have A18 := Aside0.mk A180
         clear A180
         by_cases c19 : t326 = true
         ·subst c19
          have H1 : (haywainlaw22_NetPlays.l0 kj12 l1 x5_1 (wrap64 (x6_1 + 1)) x318000_1) = some r := by rw [if_pos rfl] at H; exact H
          clear H
          have H := H1
          clear H1
          have H' := Aside0.mk H
          clear H
          have p324 : 0 ≤ (x6_1 : Int) := of_decide_eq_true (by first | (with_reducible assumption) | assumption)
          have q324 : x6_1 < (l1.length : Int) := of_decide_eq_true (by first | (with_reducible assumption) | assumption)
          obtain ⟨ad324, A324_2, c324_2, e324, hx324_0, hx324_1, hx324_2, hl324_2, hi324_2⟩ := at_T39 HR1.out x6_1 p324 q324
          cases e324
          replace hx324_0 := (HB.out.cell (World.block_lt_of_cell? w _ hx324_0)).trans hx324_0
          replace hx324_1 := (HB.out.cell (World.block_lt_of_cell? w _ hx324_1)).trans hx324_1
          replace hx324_2 := (HB.out.cell (World.block_lt_of_cell? w _ hx324_2)).trans hx324_2
          have HR324_2 := Aside0.mk hi324_2
          have HC324_2 := Aside0.mk hl324_2
          clear hi324_2 hl324_2
          replace p324 := eq_true p324
          replace q324 := eq_true q324
          go_wp2_with (first | ((with_reducible refine gate_dst (N := 7) rfl ?_); (try (refine gate_guard (by rfl) ?_; dsimp only)); refine box_event ?hg (N := 7) ?hd (cs := #[.int .i64 0, .int .i64 0, .slice none 0 0]) (t := 39) ?hr ?_; (case hd => rfl); (case hg => rfl); (case hr => first | (go_simp; done) | (go_simp; rfl)); intro gb325 hg w20 hbox hb; have n0_ := Aside0.mk (Kd.V_below (Kd.V_elderB (by (with_reducible repeat (first | apply Kd.V_alloc | apply Kd.V_drewN | apply Kd.V_drew)); exact HO_5.out) gb325 (Nat.le_of_eq hg.symm)) hb); have n1_ := Aside0.mk (Kd.V_below (Kd.V_elderB (by (with_reducible repeat (first | apply Kd.V_alloc | apply Kd.V_drewN | apply Kd.V_drew)); exact HO_318000.out) gb325 (Nat.le_of_eq hg.symm)) hb); have n2_ := Aside0.mk (blk_below (g := gb317) (o := .cells #[u318000] 26 (0, 0)) (by (with_reducible repeat (first | refine blk_drewN ?_ _ | refine blk_drew ?_ | refine blk_alloc ?_ _)); exact BK317.out) hb); have n3_ := Aside0.mk (below_step (by repeat (first | (with_reducible first | exact HB.out | apply below_alloc | apply pw_below_drewN | apply below_drew1 | refine below_set ?_ GE317.out) | exact HB.out)) hb); have n4_ := Aside0.mk (hbox); have n5_ := Aside0.mk ((by rw [hg]; exact (below_size (by repeat (first | (with_reducible first | exact HB.out | apply below_alloc | apply pw_below_drewN | apply below_drew1 | refine below_set ?_ GE317.out) | exact HB.out))) : w.heap.size ≤ gb325)); have n6_ := Aside0.mk ((by rw [hg]; exact (below_size (by repeat (first | (with_reducible first | exact HB.out | apply below_alloc | apply pw_below_drewN | apply below_drew1 | refine below_set ?_ GE317.out) | exact HB.out))) : w.heap.size ≤ gb325)); have n7_ := Aside0.mk ((by rw [hg]; exact Nat.ne_of_lt (blk_lt (g := gb317) (o := .cells #[u318000] 26 (0, 0)) (by (with_reducible repeat (first | refine blk_drewN ?_ _ | refine blk_drew ?_ | refine blk_alloc ?_ _)); exact BK317.out)) : gb317 ≠ gb325)); have n8_ := Aside0.mk ((by rw [hg]; exact Nat.ne_of_gt (blk_lt (g := gb317) (o := .cells #[u318000] 26 (0, 0)) (by (with_reducible repeat (first | refine blk_drewN ?_ _ | refine blk_drew ?_ | refine blk_alloc ?_ _)); exact BK317.out)) : gb325 ≠ gb317)); clear HO_5; clear HO_318000; clear BK317; clear HB; have HO_5 := n0_; have HO_318000 := n1_; have BK317 := n2_; have HB := n3_; have BK325 := n4_; have GW325 := n5_; have GE325 := n6_; have NB317_325 := n7_; have NB325_317 := n8_; clear n0_ n1_ n2_ n3_ n4_ n5_ n6_ n7_ n8_; clear hb hbox hg; have hnb21 := NB325_317.out; have hnc21 := NB317_325.out; have hcz22_0 : w20.cell? ⟨gb325, 0, none⟩ = some (.int .i64 0) := (blk_cell BK325.out 0).trans rfl; have hcz22_1 : w20.cell? ⟨gb325, 1, none⟩ = some (.int .i64 0) := (blk_cell BK325.out 1).trans rfl; have hcz22_2 : w20.cell? ⟨gb325, 2, none⟩ = some (.slice none 0 0) := (blk_cell BK325.out 2).trans rfl; have hfz22_0 := blk_frozen BK325.out 0; have hfz22_1 := blk_frozen BK325.out 1; have hfz22_2 := blk_frozen BK325.out 2) | ((with_reducible refine gate_callee (f := 8) rfl ?_); refine goesL_ (some 45) rfl rfl Try.func8 (by kernel_rfl) rfl #[.slice A324_2 ((rd_T39 l1 x6_1).f2).length c324_2] rfl (by (try simp only [List.map_toArray, List.map_cons, List.map_nil]); first | done | rfl | (simp only [List.length_drop, List.length_take]; rfl)) ?_; (with_reducible refine (haywainlaw22_great.calls kj12 _ _ ((rd_T39 l1 x6_1).f2) true _ ?side1 ?side2 A18.out).mono ?_); (case side1 => exact Kd.C_below HR324_2.out (by repeat (first | (with_reducible first | exact HB.out | apply below_alloc | apply pw_below_drewN | apply below_drew1 | refine below_set ?_ GE317.out | refine below_set ?_ GE325.out) | exact HB.out))); (case side2 => exact HC324_2.out); rintro e w' ⟨rfl, ⟨nd, rfl⟩⟩; refine ⟨_, rfl, ?_⟩))
          go_roundg kj12
          case measure => have := HK1.out; have := HJ12.out; omega
          case rel => exact ⟨(x5_1), (wrap64 (x6_1 + 1)), (x318000_1), (u318000), (by first | rfl | (simp; done) | (simp [*]; done)), H', ⟨by have := HK1.out; have := HJ12.out; omega⟩, ⟨by (with_reducible repeat (first | apply Kd.V_alloc | apply Kd.V_drewN | apply Kd.V_drew)); exact Kd.V_mono (Kd.V_far (p := ⟨gb325, 2, none⟩) (Kd.V_far (p := ⟨gb325, 1, none⟩) (Kd.V_far (p := ⟨gb325, 0, none⟩) (Kd.V_mono HO_5.out (fun k_ hk => (⟨hk, hk.2⟩ : _ ∧ k_ ≠ gb325))) (fun _ hk => hk.2) (.int .i64 ((rd_T39 l1 x6_1).f0))) (fun _ hk => hk.2) (.int .i64 ((rd_T39 l1 x6_1).f1))) (fun _ hk => hk.2) (.slice A324_2 ((rd_T39 l1 x6_1).f2).length c324_2)) (fun _ hk => ⟨hk.1.1.1, hk.1.1.2⟩)⟩, ⟨by (with_reducible repeat (first | apply Kd.V_alloc | apply Kd.V_drewN | apply Kd.V_drew)); exact Kd.V_mono (Kd.V_far (p := ⟨gb325, 2, none⟩) (Kd.V_far (p := ⟨gb325, 1, none⟩) (Kd.V_far (p := ⟨gb325, 0, none⟩) (Kd.V_mono HO_318000.out (fun k_ hk => (⟨hk, hk.2⟩ : _ ∧ k_ ≠ gb325))) (fun _ hk => hk.2) (.int .i64 ((rd_T39 l1 x6_1).f0))) (fun _ hk => hk.2) (.int .i64 ((rd_T39 l1 x6_1).f1))) (fun _ hk => hk.2) (.slice A324_2 ((rd_T39 l1 x6_1).f2).length c324_2)) (fun _ hk => ⟨hk.1.1.1, hk.1.1.2⟩)⟩, ⟨by (with_reducible repeat (first | refine blk_drewN ?_ _ | refine blk_drew ?_ | refine blk_alloc ?_ _)); refine blk_far ?_ NB317_325.out _; (with_reducible repeat (first | refine blk_drewN ?_ _ | refine blk_drew ?_ | refine blk_alloc ?_ _)); refine blk_far ?_ NB317_325.out _; (with_reducible repeat (first | refine blk_drewN ?_ _ | refine blk_drew ?_ | refine blk_alloc ?_ _)); refine blk_far ?_ NB317_325.out _; (with_reducible repeat (first | refine blk_drewN ?_ _ | refine blk_drew ?_ | refine blk_alloc ?_ _)); exact BK317.out⟩, ⟨by repeat (first | (with_reducible first | exact HB.out | apply below_alloc | apply pw_below_drewN | apply below_drew1 | refine below_set ?_ GE317.out | refine below_set ?_ GE325.out) | exact HB.out)⟩⟩
         ·replace c19 := Bool.eq_false_iff.mpr c19
          subst c19
          have H1 : (if ((rd_T39 l1 x6_1).f0) = 0 then ((net_Send.f kj12 x318000_1 ((rd_T39 l1 x6_1).f2)).bind fun bt327 => ((haywainlaw22_As.f kj12 ((rd_T39 l1 x6_1).f2)).bind fun t332 => ((haywainref22_Send.f kj12 x5_1 t332).bind fun bt335 => (if bt327.2 = bt335.2 then (haywainlaw22_NetPlays.j2 kj12 l1 bt335.1 x6_1 bt327.1) else (none))))) else (if ((rd_T39 l1 x6_1).f0) = 1 then ((net_Give.f kj12 x318000_1 ((rd_T39 l1 x6_1).f1)).bind fun bt339 => ((haywainref22_Give.f kj12 x5_1 ((rd_T39 l1 x6_1).f1)).bind fun bt353 => (if bt339.2.2.2.2.2.2.2.2.2 = bt353.2.2.2.2.2.2.2.2.2 then ((haywainlaw22_As.f kj12 (([(⟨bt339.2.1, bt339.2.2.1, bt339.2.2.2.1, bt339.2.2.2.2.1, bt339.2.2.2.2.2.1, bt339.2.2.2.2.2.2.1, bt339.2.2.2.2.2.2.2.1, bt339.2.2.2.2.2.2.2.2.1⟩ : S23)] : List (S23)))).bind fun t369 => ((haywainref22_Same.f kj12 t369 (([(⟨bt353.2.1, bt353.2.2.1, bt353.2.2.2.1, bt353.2.2.2.2.1, bt353.2.2.2.2.2.1, bt353.2.2.2.2.2.2.1, bt353.2.2.2.2.2.2.2.1, bt353.2.2.2.2.2.2.2.2.1⟩ : S31)] : List (S31)))).bind fun t375 => (if t375 = true then (haywainlaw22_NetPlays.j2 kj12 l1 bt353.1 x6_1 bt339.1) else (none)))) else (none)))) else ((net_Twice.f kj12 x318000_1 ((rd_T39 l1 x6_1).f1)).bind fun bt376 => ((haywainref22_Twice.f kj12 x5_1 ((rd_T39 l1 x6_1).f1)).bind fun bt381 => (if bt376.2 = bt381.2 then (haywainlaw22_NetPlays.j2 kj12 l1 bt381.1 x6_1 bt376.1) else (none)))))) = some r := by rw [if_neg (show ¬ (false = true) by decide)] at H; exact H
          clear H
          have H := H1
          clear H1
          have HC23 := Aside0.mk H
          clear H
          have p324 : 0 ≤ (x6_1 : Int) := of_decide_eq_true (by first | (with_reducible assumption) | assumption)
          have q324 : x6_1 < (l1.length : Int) := of_decide_eq_true (by first | (with_reducible assumption) | assumption)
          obtain ⟨ad324, A324_2, c324_2, e324, hx324_0, hx324_1, hx324_2, hl324_2, hi324_2⟩ := at_T39 HR1.out x6_1 p324 q324
          cases e324
          replace hx324_0 := (HB.out.cell (World.block_lt_of_cell? w _ hx324_0)).trans hx324_0
          replace hx324_1 := (HB.out.cell (World.block_lt_of_cell? w _ hx324_1)).trans hx324_1
          replace hx324_2 := (HB.out.cell (World.block_lt_of_cell? w _ hx324_2)).trans hx324_2
          have HR324_2 := Aside0.mk hi324_2
          have HC324_2 := Aside0.mk hl324_2
          clear hi324_2 hl324_2
          replace p324 := eq_true p324
          replace q324 := eq_true q324
          go_upto_block 2 with (first | ((with_reducible refine gate_dst (N := 7) rfl ?_); (try (refine gate_guard (by rfl) ?_; dsimp only)); refine box_event ?hg (N := 7) ?hd (cs := #[.int .i64 0, .int .i64 0, .slice none 0 0]) (t := 39) ?hr ?_; (case hd => rfl); (case hg => rfl); (case hr => first | (go_simp; done) | (go_simp; rfl)); intro gb325 hg w24 hbox hb; have n0_ := Aside0.mk (Kd.V_below (Kd.V_elderB (by (with_reducible repeat (first | apply Kd.V_alloc | apply Kd.V_drewN | apply Kd.V_drew)); exact HO_5.out) gb325 (Nat.le_of_eq hg.symm)) hb); have n1_ := Aside0.mk (Kd.V_below (Kd.V_elderB (by (with_reducible repeat (first | apply Kd.V_alloc | apply Kd.V_drewN | apply Kd.V_drew)); exact HO_318000.out) gb325 (Nat.le_of_eq hg.symm)) hb); have n2_ := Aside0.mk (blk_below (g := gb317) (o := .cells #[u318000] 26 (0, 0)) (by (with_reducible repeat (first | refine blk_drewN ?_ _ | refine blk_drew ?_ | refine blk_alloc ?_ _)); exact BK317.out) hb); have n3_ := Aside0.mk (below_step (by repeat (first | (with_reducible first | exact HB.out | apply below_alloc | apply pw_below_drewN | apply below_drew1 | refine below_set ?_ GE317.out) | exact HB.out)) hb); have n4_ := Aside0.mk (hbox); have n5_ := Aside0.mk ((by rw [hg]; exact (below_size (by repeat (first | (with_reducible first | exact HB.out | apply below_alloc | apply pw_below_drewN | apply below_drew1 | refine below_set ?_ GE317.out) | exact HB.out))) : w.heap.size ≤ gb325)); have n6_ := Aside0.mk ((by rw [hg]; exact (below_size (by repeat (first | (with_reducible first | exact HB.out | apply below_alloc | apply pw_below_drewN | apply below_drew1 | refine below_set ?_ GE317.out) | exact HB.out))) : w.heap.size ≤ gb325)); have n7_ := Aside0.mk ((by rw [hg]; exact Nat.ne_of_lt (blk_lt (g := gb317) (o := .cells #[u318000] 26 (0, 0)) (by (with_reducible repeat (first | refine blk_drewN ?_ _ | refine blk_drew ?_ | refine blk_alloc ?_ _)); exact BK317.out)) : gb317 ≠ gb325)); have n8_ := Aside0.mk ((by rw [hg]; exact Nat.ne_of_gt (blk_lt (g := gb317) (o := .cells #[u318000] 26 (0, 0)) (by (with_reducible repeat (first | refine blk_drewN ?_ _ | refine blk_drew ?_ | refine blk_alloc ?_ _)); exact BK317.out)) : gb325 ≠ gb317)); clear HO_5; clear HO_318000; clear BK317; clear HB; have HO_5 := n0_; have HO_318000 := n1_; have BK317 := n2_; have HB := n3_; have BK325 := n4_; have GW325 := n5_; have GE325 := n6_; have NB317_325 := n7_; have NB325_317 := n8_; clear n0_ n1_ n2_ n3_ n4_ n5_ n6_ n7_ n8_; clear hb hbox hg; have hnb25 := NB325_317.out; have hnc25 := NB317_325.out; have hcz26_0 : w24.cell? ⟨gb325, 0, none⟩ = some (.int .i64 0) := (blk_cell BK325.out 0).trans rfl; have hcz26_1 : w24.cell? ⟨gb325, 1, none⟩ = some (.int .i64 0) := (blk_cell BK325.out 1).trans rfl; have hcz26_2 : w24.cell? ⟨gb325, 2, none⟩ = some (.slice none 0 0) := (blk_cell BK325.out 2).trans rfl; have hfz26_0 := blk_frozen BK325.out 0; have hfz26_1 := blk_frozen BK325.out 1; have hfz26_2 := blk_frozen BK325.out 2) | ((with_reducible refine gate_callee (f := 8) rfl ?_); refine goesL_ (some 45) rfl rfl Try.func8 (by kernel_rfl) rfl #[.slice A324_2 ((rd_T39 l1 x6_1).f2).length c324_2] rfl (by (try simp only [List.map_toArray, List.map_cons, List.map_nil]); first | done | rfl | (simp only [List.length_drop, List.length_take]; rfl)) ?_; (with_reducible refine (haywainlaw22_great.calls kj12 _ _ ((rd_T39 l1 x6_1).f2) false _ ?side1 ?side2 A18.out).mono ?_); (case side1 => exact Kd.C_below HR324_2.out (by repeat (first | (with_reducible first | exact HB.out | apply below_alloc | apply pw_below_drewN | apply below_drew1 | refine below_set ?_ GE317.out | refine below_set ?_ GE325.out) | exact HB.out))); (case side2 => exact HC324_2.out); rintro e w' ⟨rfl, ⟨nd, rfl⟩⟩; refine ⟨_, rfl, ?_⟩))
          (try simp only [Act.put, List.setIfInBounds_toArray, List.set_cons_zero, List.set_cons_succ])
          go_cut [5] (fun v5 wc => ∃ (kq : Nat) (x5_22 : List (S31)) (x318000_22 : List (S23)) (u318000 : Value), Aside0 (haywainlaw22_NetPlays.j2 kq l1 x5_22 x6_1 x318000_22 = some r) ∧ Aside0 (kq ≤ kj12) ∧ Aside0 (Kd.V k31 31 wc w.heap.size (fun k_ => (P0_0_ k_ ∨ w.heap.size ≤ k_) ∧ k_ ≠ gb317 ∧ k_ ≠ gb325) v5 x5_22) ∧ Aside0 (Kd.V k23 23 wc w.heap.size (fun k_ => (P0_0_ k_ ∨ w.heap.size ≤ k_) ∧ k_ ≠ gb317 ∧ k_ ≠ gb325) u318000 x318000_22) ∧ Aside0 (wc.heap[gb317]? = some (.cells #[u318000] 26 (0, 0))) ∧ Aside0 (wc.heap[gb325]? = some (.cells #[.int .i64 ((rd_T39 l1 x6_1).f0), .int .i64 ((rd_T39 l1 x6_1).f1), (.slice A324_2 ((rd_T39 l1 x6_1).f2).length c324_2)] 39 (0, 0))) ∧ Aside0 (Below w.heap.size w wc))
          case first =>
           have H := HC23.out
           clear HC23
           by_cases c27 : ((rd_T39 l1 x6_1).f0) = 0
           ·rw [if_pos c27] at H
            have c27b0 : (((rd_T39 l1 x6_1).f0) == 0) = true := beq_iff_eq.mpr c27
            have c27b1 : (((rd_T39 l1 x6_1).f0) != 0) = false := bne_eq_false_iff_eq.mpr c27
            clear c27
            (first | rw [c27b0] | (simp only [i64_w, i32_w]; rw [c27b0]) | skip)
            replace H := Option.bind_eq_some_iff.mp H
            obtain ⟨⟨t327, t330⟩, A280, H⟩ := H
            replace H : ((haywainlaw22_As.f kj12 ((rd_T39 l1 x6_1).f2)).bind fun t332 => ((haywainref22_Send.f kj12 x5_1 t332).bind fun bt335 => (if t330 = bt335.2 then (haywainlaw22_NetPlays.j2 kj12 l1 bt335.1 x6_1 t327) else (none)))) = some r := H
            have A28 := Aside0.mk A280
            clear A280
            replace H := Option.bind_eq_some_iff.mp H
            obtain ⟨t332, A290, H⟩ := H
            replace H : ((haywainref22_Send.f kj12 x5_1 t332).bind fun bt335 => (if t330 = bt335.2 then (haywainlaw22_NetPlays.j2 kj12 l1 bt335.1 x6_1 t327) else (none))) = some r := H
            have A29 := Aside0.mk A290
            clear A290
            replace H := Option.bind_eq_some_iff.mp H
            obtain ⟨⟨t335, t336⟩, A300, H⟩ := H
            replace H : (if t330 = t336 then (haywainlaw22_NetPlays.j2 kj12 l1 t335 x6_1 t327) else (none)) = some r := H
            have A30 := Aside0.mk A300
            clear A300
            by_cases c31 : t330 = t336
            ·rw [if_pos c31] at H
             have c31b0 : (t330 == t336) = true := beq_iff_eq.mpr c31
             have c31b1 : (t330 != t336) = false := bne_eq_false_iff_eq.mpr c31
             clear c31
             have H' := Aside0.mk H
             clear H
             have hnb32 := NB317_325.out
             have hnc32 := NB325_317.out
             have hcz33_0 : w24.cell? ⟨gb317, 0, none⟩ = some (u318000) := (blk_cell BK317.out 0).trans rfl
             have hfz33_0 := blk_frozen BK317.out 0
             have hcz34_0 : w24.cell? ⟨gb325, 0, none⟩ = some (.int .i64 0) := (blk_cell BK325.out 0).trans rfl
             have hcz34_1 : w24.cell? ⟨gb325, 1, none⟩ = some (.int .i64 0) := (blk_cell BK325.out 1).trans rfl
             have hcz34_2 : w24.cell? ⟨gb325, 2, none⟩ = some (.slice none 0 0) := (blk_cell BK325.out 2).trans rfl
             have hfz34_0 := blk_frozen BK325.out 0
             have hfz34_1 := blk_frozen BK325.out 1
             have hfz34_2 := blk_frozen BK325.out 2
             obtain ⟨Ao35, co35, eo35⟩ := Kd.V_slice HO_318000.out
             subst eo35
             go_wp2_with (first | ((with_reducible refine gate_callee (f := 15) rfl ?_); refine goesL_ (some 73) rfl rfl Try.func15 (by kernel_rfl) rfl #[.agg #[.slice Ao35 x318000_1.length co35], .slice A324_2 ((rd_T39 l1 x6_1).f2).length c324_2] rfl (by (try simp only [List.map_toArray, List.map_cons, List.map_nil]); first | done | rfl | (simp only [List.length_drop, List.length_take]; rfl)) ?_; (with_reducible refine (net_Send.calls kj12 _ _ x318000_1 _ _ ((rd_T39 l1 x6_1).f2) t327 t330 _ ?side1 ?side2 ?side3 ?side4 A28.out).mono ?_); (case side1 => refine (Kd.V_reads' (e := 23) (base := w.heap.size) (ok := fun k_ => ((((P0_0_ k_ ∨ w.heap.size ≤ k_)) ∧ k_ ≠ gb317) ∧ k_ ≠ gb325)) (n := x318000_1.length) (c := co35) ?_).2.2; exact (by (with_reducible repeat (first | apply Kd.V_alloc | apply Kd.V_drewN | apply Kd.V_drew)); exact (Kd.V_mono (Kd.V_far (p := ⟨gb325, 2, none⟩) (Kd.V_far (p := ⟨gb325, 1, none⟩) (Kd.V_far (p := ⟨gb325, 0, none⟩) (Kd.V_mono HO_318000.out (fun k_ hk => (⟨hk, hk.2⟩ : _ ∧ k_ ≠ gb325))) (fun _ hk => hk.2) (.int .i64 ((rd_T39 l1 x6_1).f0))) (fun _ hk => hk.2) (.int .i64 ((rd_T39 l1 x6_1).f1))) (fun _ hk => hk.2) (.slice A324_2 ((rd_T39 l1 x6_1).f2).length c324_2)) (fun _ h_ => h_.1)))); (case side2 => exact (Kd.V_reads' HO_318000.out).2.1); (case side3 => exact Kd.C_below HR324_2.out (by repeat (first | (with_reducible first | exact HB.out | apply below_alloc | apply pw_below_drewN | apply below_drew1 | refine below_set ?_ GE317.out | refine below_set ?_ GE325.out) | exact HB.out))); (case side4 => exact HC324_2.out); rintro e w36 ⟨v328, rfl, ho0, hb⟩; refine ⟨_, rfl, ?_⟩; have n0_ := Aside0.mk (Kd.V_elder' (by (with_reducible repeat (first | apply Kd.V_alloc | apply Kd.V_drewN | apply Kd.V_drew)); exact (Kd.V_mono (Kd.V_far (p := ⟨gb325, 2, none⟩) (Kd.V_far (p := ⟨gb325, 1, none⟩) (Kd.V_far (p := ⟨gb325, 0, none⟩) (Kd.V_mono HO_5.out (fun k_ hk => (⟨hk, hk.2⟩ : _ ∧ k_ ≠ gb325))) (fun _ hk => hk.2) (.int .i64 ((rd_T39 l1 x6_1).f0))) (fun _ hk => hk.2) (.int .i64 ((rd_T39 l1 x6_1).f1))) (fun _ hk => hk.2) (.slice A324_2 ((rd_T39 l1 x6_1).f2).length c324_2)) (fun _ h_ => h_.1))) (Kd.R_base ho0) hb); have n1_ := Aside0.mk (Kd.V_elder' (by (with_reducible repeat (first | apply Kd.V_alloc | apply Kd.V_drewN | apply Kd.V_drew)); exact (Kd.V_mono (Kd.V_far (p := ⟨gb325, 2, none⟩) (Kd.V_far (p := ⟨gb325, 1, none⟩) (Kd.V_far (p := ⟨gb325, 0, none⟩) (Kd.V_mono HO_318000.out (fun k_ hk => (⟨hk, hk.2⟩ : _ ∧ k_ ≠ gb325))) (fun _ hk => hk.2) (.int .i64 ((rd_T39 l1 x6_1).f0))) (fun _ hk => hk.2) (.int .i64 ((rd_T39 l1 x6_1).f1))) (fun _ hk => hk.2) (.slice A324_2 ((rd_T39 l1 x6_1).f2).length c324_2)) (fun _ h_ => h_.1))) (Kd.R_base ho0) hb); have n2_ := Aside0.mk (Kd.R_lower (Kd.R_newM (M := fun k_ => (w.heap.size ≤ k_)) ho0 (below_size (by repeat (first | (with_reducible first | exact HB.out | apply below_alloc | apply pw_below_drewN | apply below_drew1 | refine below_set ?_ GE317.out | refine below_set ?_ GE325.out) | exact HB.out))) (fun k_ h_ => h_)) (below_size (by repeat (first | (with_reducible first | exact HB.out | apply below_alloc | apply pw_below_drewN | apply below_drew1 | refine below_set ?_ GE317.out | refine below_set ?_ GE325.out) | exact HB.out)))); have n3_ := Aside0.mk (blk_below (g := gb317) (o := .cells #[.slice Ao35 x318000_1.length co35] 26 (0, 0)) (by (with_reducible repeat (first | refine blk_drewN ?_ _ | refine blk_drew ?_ | refine blk_alloc ?_ _)); refine blk_far ?_ NB317_325.out _; (with_reducible repeat (first | refine blk_drewN ?_ _ | refine blk_drew ?_ | refine blk_alloc ?_ _)); refine blk_far ?_ NB317_325.out _; (with_reducible repeat (first | refine blk_drewN ?_ _ | refine blk_drew ?_ | refine blk_alloc ?_ _)); refine blk_far ?_ NB317_325.out _; (with_reducible repeat (first | refine blk_drewN ?_ _ | refine blk_drew ?_ | refine blk_alloc ?_ _)); exact BK317.out) hb); have n4_ := Aside0.mk (blk_below (g := gb325) (o := .cells #[.int .i64 ((rd_T39 l1 x6_1).f0), .int .i64 ((rd_T39 l1 x6_1).f1), .slice A324_2 ((rd_T39 l1 x6_1).f2).length c324_2] 39 (0, 0)) (by (with_reducible repeat (first | refine blk_drewN ?_ _ | refine blk_drew ?_ | refine blk_alloc ?_ _)); refine blk_put (cs := #[.int .i64 ((rd_T39 l1 x6_1).f0), .int .i64 ((rd_T39 l1 x6_1).f1), .slice none 0 0]) ?_ 2 _ rfl; (with_reducible repeat (first | refine blk_drewN ?_ _ | refine blk_drew ?_ | refine blk_alloc ?_ _)); refine blk_put (cs := #[.int .i64 ((rd_T39 l1 x6_1).f0), .int .i64 0, .slice none 0 0]) ?_ 1 _ rfl; (with_reducible repeat (first | refine blk_drewN ?_ _ | refine blk_drew ?_ | refine blk_alloc ?_ _)); refine blk_put (cs := #[.int .i64 0, .int .i64 0, .slice none 0 0]) ?_ 0 _ rfl; (with_reducible repeat (first | refine blk_drewN ?_ _ | refine blk_drew ?_ | refine blk_alloc ?_ _)); exact BK325.out) hb); have n5_ := Aside0.mk (below_step (by repeat (first | (with_reducible first | exact HB.out | apply below_alloc | apply pw_below_drewN | apply below_drew1 | refine below_set ?_ GE317.out | refine below_set ?_ GE325.out) | exact HB.out)) hb); clear HO_5; clear HO_318000; clear BK317; clear BK325; clear HB; have HO_5 := n0_; have HO_318000 := n1_; have HO329 := n2_; have BK317 := n3_; have BK325 := n4_; have HB := n5_; clear n0_ n1_ n2_ n3_ n4_ n5_; (try clear hb); (try clear hb2); (try clear hk); (try clear hi); (try clear ho0)) | ((with_reducible refine gate_dst (N := 8) rfl ?_); (try (refine gate_guard (by rfl) ?_; dsimp only)); refine box_event ?hg (N := 8) ?hd (cs := #[.slice none 0 0]) (t := 26) ?hr ?_; (case hd => rfl); (case hg => rfl); (case hr => first | (go_simp; done) | (go_simp; rfl)); intro gb331 hg w37 hbox hb; have n0_ := Aside0.mk (Kd.V_below (Kd.V_elderB (by (with_reducible repeat (first | apply Kd.V_alloc | apply Kd.V_drewN | apply Kd.V_drew)); exact HO_5.out) gb331 (Nat.le_of_eq hg.symm)) hb); have n1_ := Aside0.mk (Kd.V_below (Kd.V_elderB (by (with_reducible repeat (first | apply Kd.V_alloc | apply Kd.V_drewN | apply Kd.V_drew)); exact HO_318000.out) gb331 (Nat.le_of_eq hg.symm)) hb); have n2_ := Aside0.mk (Kd.R_below (by (with_reducible repeat (first | apply Kd.R_alloc | apply Kd.R_drewN | apply Kd.R_drew)); exact HO329.out) hb); have n3_ := Aside0.mk (blk_below (g := gb317) (o := .cells #[.slice Ao35 x318000_1.length co35] 26 (0, 0)) (by (with_reducible repeat (first | refine blk_drewN ?_ _ | refine blk_drew ?_ | refine blk_alloc ?_ _)); exact BK317.out) hb); have n4_ := Aside0.mk (blk_below (g := gb325) (o := .cells #[.int .i64 ((rd_T39 l1 x6_1).f0), .int .i64 ((rd_T39 l1 x6_1).f1), .slice A324_2 ((rd_T39 l1 x6_1).f2).length c324_2] 39 (0, 0)) (by (with_reducible repeat (first | refine blk_drewN ?_ _ | refine blk_drew ?_ | refine blk_alloc ?_ _)); exact BK325.out) hb); have n5_ := Aside0.mk (below_step (by repeat (first | (with_reducible first | exact HB.out | apply below_alloc | apply pw_below_drewN | apply below_drew1 | refine below_set ?_ GE317.out | refine below_set ?_ GE325.out) | exact HB.out)) hb); have n6_ := Aside0.mk (hbox); have n7_ := Aside0.mk ((by rw [hg]; exact (below_size (by repeat (first | (with_reducible first | exact HB.out | apply below_alloc | apply pw_below_drewN | apply below_drew1 | refine below_set ?_ GE317.out | refine below_set ?_ GE325.out) | exact HB.out))) : w.heap.size ≤ gb331)); have n8_ := Aside0.mk ((by rw [hg]; exact (below_size (by repeat (first | (with_reducible first | exact HB.out | apply below_alloc | apply pw_below_drewN | apply below_drew1 | refine below_set ?_ GE317.out | refine below_set ?_ GE325.out) | exact HB.out))) : w.heap.size ≤ gb331)); have n9_ := Aside0.mk ((by rw [hg]; exact Nat.ne_of_lt (blk_lt (g := gb317) (o := .cells #[.slice Ao35 x318000_1.length co35] 26 (0, 0)) (by (with_reducible repeat (first | refine blk_drewN ?_ _ | refine blk_drew ?_ | refine blk_alloc ?_ _)); exact BK317.out)) : gb317 ≠ gb331)); have n10_ := Aside0.mk ((by rw [hg]; exact Nat.ne_of_gt (blk_lt (g := gb317) (o := .cells #[.slice Ao35 x318000_1.length co35] 26 (0, 0)) (by (with_reducible repeat (first | refine blk_drewN ?_ _ | refine blk_drew ?_ | refine blk_alloc ?_ _)); exact BK317.out)) : gb331 ≠ gb317)); have n11_ := Aside0.mk ((by rw [hg]; exact Nat.ne_of_lt (blk_lt (g := gb325) (o := .cells #[.int .i64 ((rd_T39 l1 x6_1).f0), .int .i64 ((rd_T39 l1 x6_1).f1), .slice A324_2 ((rd_T39 l1 x6_1).f2).length c324_2] 39 (0, 0)) (by (with_reducible repeat (first | refine blk_drewN ?_ _ | refine blk_drew ?_ | refine blk_alloc ?_ _)); exact BK325.out)) : gb325 ≠ gb331)); have n12_ := Aside0.mk ((by rw [hg]; exact Nat.ne_of_gt (blk_lt (g := gb325) (o := .cells #[.int .i64 ((rd_T39 l1 x6_1).f0), .int .i64 ((rd_T39 l1 x6_1).f1), .slice A324_2 ((rd_T39 l1 x6_1).f2).length c324_2] 39 (0, 0)) (by (with_reducible repeat (first | refine blk_drewN ?_ _ | refine blk_drew ?_ | refine blk_alloc ?_ _)); exact BK325.out)) : gb331 ≠ gb325)); clear HO_5; clear HO_318000; clear HO329; clear BK317; clear BK325; clear HB; have HO_5 := n0_; have HO_318000 := n1_; have HO329 := n2_; have BK317 := n3_; have BK325 := n4_; have HB := n5_; have BK331 := n6_; have GW331 := n7_; have GE331 := n8_; have NB317_331 := n9_; have NB331_317 := n10_; have NB325_331 := n11_; have NB331_325 := n12_; clear n0_ n1_ n2_ n3_ n4_ n5_ n6_ n7_ n8_ n9_ n10_ n11_ n12_; clear hb hbox hg; obtain ⟨Ao38, co38, eo38⟩ := Kd.R_slice HO329.out; subst eo38; have hnb39 := NB331_317.out; have hnc39 := NB317_331.out; have hnb40 := NB331_325.out; have hnc40 := NB325_331.out; have hcz41_0 : w37.cell? ⟨gb331, 0, none⟩ = some (.slice none 0 0) := (blk_cell BK331.out 0).trans rfl; have hfz41_0 := blk_frozen BK331.out 0; have hcz42_0 : w37.cell? ⟨gb325, 0, none⟩ = some (.int .i64 ((rd_T39 l1 x6_1).f0)) := (blk_cell BK325.out 0).trans rfl; have hcz42_1 : w37.cell? ⟨gb325, 1, none⟩ = some (.int .i64 ((rd_T39 l1 x6_1).f1)) := (blk_cell BK325.out 1).trans rfl; have hcz42_2 : w37.cell? ⟨gb325, 2, none⟩ = some (.slice A324_2 ((rd_T39 l1 x6_1).f2).length c324_2) := (blk_cell BK325.out 2).trans rfl; have hfz42_0 := blk_frozen BK325.out 0; have hfz42_1 := blk_frozen BK325.out 1; have hfz42_2 := blk_frozen BK325.out 2) | ((with_reducible refine gate_callee (f := 12) rfl ?_); refine goesL_ (some 80) rfl rfl Try.func12 (by kernel_rfl) rfl #[.slice A324_2 ((rd_T39 l1 x6_1).f2).length c324_2] rfl (by (try simp only [List.map_toArray, List.map_cons, List.map_nil]); first | done | rfl | (simp only [List.length_drop, List.length_take]; rfl)) ?_; (with_reducible refine (haywainlaw22_As.calls kj12 _ _ ((rd_T39 l1 x6_1).f2) t332 _ ?side1 ?side2 A29.out).mono ?_); (case side1 => exact Kd.C_below HR324_2.out (by repeat (first | (with_reducible first | exact HB.out | apply below_alloc | apply pw_below_drewN | apply below_drew1 | refine below_set ?_ GE317.out | refine below_set ?_ GE325.out | refine below_set ?_ GE331.out) | exact HB.out))); (case side2 => exact HC324_2.out); rintro e w43 ⟨v333, rfl, ho0, hb⟩; refine ⟨_, rfl, ?_⟩; have n0_ := Aside0.mk (Kd.V_elder' (by (with_reducible repeat (first | apply Kd.V_alloc | apply Kd.V_drewN | apply Kd.V_drew)); exact (Kd.V_mono (Kd.V_far (p := ⟨gb331, 0, none⟩) (Kd.V_mono HO_5.out (fun k_ hk => (⟨hk, hk.2⟩ : _ ∧ k_ ≠ gb331))) (fun _ hk => hk.2) (.slice Ao38 t327.length co38)) (fun _ h_ => h_.1))) (Kd.R_base ho0) hb); have n1_ := Aside0.mk (Kd.V_elder' (by (with_reducible repeat (first | apply Kd.V_alloc | apply Kd.V_drewN | apply Kd.V_drew)); exact (Kd.V_mono (Kd.V_far (p := ⟨gb331, 0, none⟩) (Kd.V_mono HO_318000.out (fun k_ hk => (⟨hk, hk.2⟩ : _ ∧ k_ ≠ gb331))) (fun _ hk => hk.2) (.slice Ao38 t327.length co38)) (fun _ h_ => h_.1))) (Kd.R_base ho0) hb); have n2_ := Aside0.mk (Kd.R_below (by (with_reducible repeat (first | apply Kd.R_alloc | apply Kd.R_drewN | apply Kd.R_drew)); exact (Kd.R_mono (Kd.R_far (p := ⟨gb331, 0, none⟩) (Kd.R_types HO329.out BK331.out (by decide)) (fun _ hk => hk.2) (.slice Ao38 t327.length co38)) (fun _ h_ => h_.1))) hb); have n3_ := Aside0.mk (Kd.R_lower (Kd.R_newM (M := fun k_ => (w.heap.size ≤ k_)) ho0 (below_size (by repeat (first | (with_reducible first | exact HB.out | apply below_alloc | apply pw_below_drewN | apply below_drew1 | refine below_set ?_ GE317.out | refine below_set ?_ GE325.out | refine below_set ?_ GE331.out) | exact HB.out))) (fun k_ h_ => h_)) (below_size (by repeat (first | (with_reducible first | exact HB.out | apply below_alloc | apply pw_below_drewN | apply below_drew1 | refine below_set ?_ GE317.out | refine below_set ?_ GE325.out | refine below_set ?_ GE331.out) | exact HB.out)))); have n4_ := Aside0.mk (blk_below (g := gb317) (o := .cells #[.slice Ao35 x318000_1.length co35] 26 (0, 0)) (by (with_reducible repeat (first | refine blk_drewN ?_ _ | refine blk_drew ?_ | refine blk_alloc ?_ _)); refine blk_far ?_ NB317_331.out _; (with_reducible repeat (first | refine blk_drewN ?_ _ | refine blk_drew ?_ | refine blk_alloc ?_ _)); exact BK317.out) hb); have n5_ := Aside0.mk (blk_below (g := gb325) (o := .cells #[.int .i64 ((rd_T39 l1 x6_1).f0), .int .i64 ((rd_T39 l1 x6_1).f1), .slice A324_2 ((rd_T39 l1 x6_1).f2).length c324_2] 39 (0, 0)) (by (with_reducible repeat (first | refine blk_drewN ?_ _ | refine blk_drew ?_ | refine blk_alloc ?_ _)); refine blk_far ?_ NB325_331.out _; (with_reducible repeat (first | refine blk_drewN ?_ _ | refine blk_drew ?_ | refine blk_alloc ?_ _)); exact BK325.out) hb); have n6_ := Aside0.mk (blk_below (g := gb331) (o := .cells #[.slice Ao38 t327.length co38] 26 (0, 0)) (by (with_reducible repeat (first | refine blk_drewN ?_ _ | refine blk_drew ?_ | refine blk_alloc ?_ _)); refine blk_put (cs := #[.slice none 0 0]) ?_ 0 _ rfl; (with_reducible repeat (first | refine blk_drewN ?_ _ | refine blk_drew ?_ | refine blk_alloc ?_ _)); exact BK331.out) hb); have n7_ := Aside0.mk (below_step (by repeat (first | (with_reducible first | exact HB.out | apply below_alloc | apply pw_below_drewN | apply below_drew1 | refine below_set ?_ GE317.out | refine below_set ?_ GE325.out | refine below_set ?_ GE331.out) | exact HB.out)) hb); clear HO_5; clear HO_318000; clear HO329; clear BK317; clear BK325; clear BK331; clear HB; have HO_5 := n0_; have HO_318000 := n1_; have HO329 := n2_; have HO334 := n3_; have BK317 := n4_; have BK325 := n5_; have BK331 := n6_; have HB := n7_; clear n0_ n1_ n2_ n3_ n4_ n5_ n6_ n7_; (try clear hb); (try clear hb2); (try clear hk); (try clear hi); (try clear ho0); obtain ⟨Ao44, co44, eo44⟩ := Kd.V_slice HO_5.out; subst eo44; obtain ⟨Ao45, co45, eo45⟩ := Kd.R_slice HO334.out; subst eo45) | ((with_reducible refine gate_callee (f := 16) rfl ?_); refine goesL_ (some 81) rfl rfl Try.func16 (by kernel_rfl) rfl #[.slice Ao44 x5_1.length co44, .slice Ao45 t332.length co45] rfl (by (try simp only [List.map_toArray, List.map_cons, List.map_nil]); first | done | rfl | (simp only [List.length_drop, List.length_take]; rfl)) ?_; (with_reducible refine (haywainref22_Send.calls kj12 _ _ x5_1 _ _ t332 t335 t336 _ ?side1 ?side2 ?side3 ?side4 A30.out).mono ?_); (case side1 => repeat (first | exact (Kd.V_reads' HO_5.out).2.2 | (with_reducible refine Kd.C_alloc ?_ _) | (with_reducible refine Kd.C_drewN ?_ _) | (with_reducible refine Kd.C_drew ?_))); (case side2 => exact (Kd.V_reads' HO_5.out).2.1); (case side3 => repeat (first | exact (Kd.R_reads' HO334.out).2.2 | (with_reducible refine Kd.C_alloc ?_ _) | (with_reducible refine Kd.C_drewN ?_ _) | (with_reducible refine Kd.C_drew ?_))); (case side4 => exact (Kd.R_reads' HO334.out).2.1); rintro e w46 ⟨v337, rfl, ho0, hb⟩; refine ⟨_, rfl, ?_⟩; have n0_ := Aside0.mk (Kd.V_elder' (by (with_reducible repeat (first | apply Kd.V_alloc | apply Kd.V_drewN | apply Kd.V_drew)); exact HO_5.out) (Kd.R_base ho0) hb); have n1_ := Aside0.mk (Kd.V_elder' (by (with_reducible repeat (first | apply Kd.V_alloc | apply Kd.V_drewN | apply Kd.V_drew)); exact HO_318000.out) (Kd.R_base ho0) hb); have n2_ := Aside0.mk (Kd.R_below (by (with_reducible repeat (first | apply Kd.R_alloc | apply Kd.R_drewN | apply Kd.R_drew)); exact HO329.out) hb); have n3_ := Aside0.mk (Kd.R_elder' (by (with_reducible repeat (first | apply Kd.R_alloc | apply Kd.R_drewN | apply Kd.R_drew)); exact HO334.out) (Kd.R_base ho0) hb); have n4_ := Aside0.mk (Kd.R_lower (Kd.R_new' (Kd.R_newM (M := fun k_ => (w.heap.size ≤ k_)) ho0 (below_size (by repeat (first | (with_reducible first | exact HB.out | apply below_alloc | apply pw_below_drewN | apply below_drew1 | refine below_set ?_ GE317.out | refine below_set ?_ GE325.out | refine below_set ?_ GE331.out) | exact HB.out))) (fun k_ h_ => h_)) (Kd.R_lt (by (with_reducible repeat (first | apply Kd.R_alloc | apply Kd.R_drewN | apply Kd.R_drew)); exact HO334.out))) (below_size (by repeat (first | (with_reducible first | exact HB.out | apply below_alloc | apply pw_below_drewN | apply below_drew1 | refine below_set ?_ GE317.out | refine below_set ?_ GE325.out | refine below_set ?_ GE331.out) | exact HB.out)))); have n5_ := Aside0.mk (blk_below (g := gb317) (o := .cells #[.slice Ao35 x318000_1.length co35] 26 (0, 0)) (by (with_reducible repeat (first | refine blk_drewN ?_ _ | refine blk_drew ?_ | refine blk_alloc ?_ _)); exact BK317.out) hb); have n6_ := Aside0.mk (blk_below (g := gb325) (o := .cells #[.int .i64 ((rd_T39 l1 x6_1).f0), .int .i64 ((rd_T39 l1 x6_1).f1), .slice A324_2 ((rd_T39 l1 x6_1).f2).length c324_2] 39 (0, 0)) (by (with_reducible repeat (first | refine blk_drewN ?_ _ | refine blk_drew ?_ | refine blk_alloc ?_ _)); exact BK325.out) hb); have n7_ := Aside0.mk (blk_below (g := gb331) (o := .cells #[.slice Ao38 t327.length co38] 26 (0, 0)) (by (with_reducible repeat (first | refine blk_drewN ?_ _ | refine blk_drew ?_ | refine blk_alloc ?_ _)); exact BK331.out) hb); have n8_ := Aside0.mk (below_step (by repeat (first | (with_reducible first | exact HB.out | apply below_alloc | apply pw_below_drewN | apply below_drew1 | refine below_set ?_ GE317.out | refine below_set ?_ GE325.out | refine below_set ?_ GE331.out) | exact HB.out)) hb); clear HO_5; clear HO_318000; clear HO329; clear HO334; clear BK317; clear BK325; clear BK331; clear HB; have HO_5 := n0_; have HO_318000 := n1_; have HO329 := n2_; have HO334 := n3_; have HO338 := n4_; have BK317 := n5_; have BK325 := n6_; have BK331 := n7_; have HB := n8_; clear n0_ n1_ n2_ n3_ n4_ n5_ n6_ n7_ n8_; (try clear hb); (try clear hb2); (try clear hk); (try clear hi); (try clear ho0); have hcz47_0 : w46.cell? ⟨gb331, 0, none⟩ = some (.slice Ao38 t327.length co38) := (blk_cell BK331.out 0).trans rfl; have hfz47_0 := blk_frozen BK331.out 0; have hcz48_0 : w46.cell? ⟨gb317, 0, none⟩ = some (.slice Ao35 x318000_1.length co35) := (blk_cell BK317.out 0).trans rfl; have hfz48_0 := blk_frozen BK317.out 0))
             go_meet
             case rel => exact ⟨_, (t335), (t327), (.slice Ao38 t327.length co38), H', ⟨by have := HK1.out; have := HJ12.out; first | omega | exact Nat.le_refl _⟩, ⟨Kd.V_mono (Kd.R_V (by (with_reducible repeat (first | apply Kd.R_alloc | apply Kd.R_drewN | apply Kd.R_drew)); exact (Kd.R_far (p := ⟨gb317, 0, none⟩) (Kd.R_types (Kd.R_types (Kd.R_types HO338.out BK317.out (by decide)) BK325.out (by decide)) BK317.out (by decide)) (fun _ hk => hk.2) (.slice Ao38 t327.length co38)))) (fun k_ hk => by first | exact ⟨(.inr (hk.1.1.1.1.1)), ⟨hk.1.1.2, hk.1.2⟩⟩ | exact ⟨(.inr (hk.1)), hk.2⟩ | exact (.inr (hk)))⟩, ⟨Kd.V_mono (Kd.R_V (by (with_reducible repeat (first | apply Kd.R_alloc | apply Kd.R_drewN | apply Kd.R_drew)); exact (Kd.R_far (p := ⟨gb317, 0, none⟩) (Kd.R_types (Kd.R_types (Kd.R_types HO329.out BK317.out (by decide)) BK325.out (by decide)) BK317.out (by decide)) (fun _ hk => hk.2) (.slice Ao38 t327.length co38)))) (fun k_ hk => by first | exact ⟨(.inr (hk.1.1.1.1)), ⟨hk.1.1.2, hk.1.2⟩⟩ | exact ⟨(.inr (hk.1)), hk.2⟩ | exact (.inr (hk)))⟩, ⟨by (with_reducible repeat (first | refine blk_drewN ?_ _ | refine blk_drew ?_ | refine blk_alloc ?_ _)); refine blk_put (cs := #[.slice Ao35 x318000_1.length co35]) ?_ 0 _ rfl; (with_reducible repeat (first | refine blk_drewN ?_ _ | refine blk_drew ?_ | refine blk_alloc ?_ _)); exact BK317.out⟩, ⟨by (with_reducible repeat (first | refine blk_drewN ?_ _ | refine blk_drew ?_ | refine blk_alloc ?_ _)); refine blk_far ?_ NB325_317.out _; (with_reducible repeat (first | refine blk_drewN ?_ _ | refine blk_drew ?_ | refine blk_alloc ?_ _)); exact BK325.out⟩, ⟨by repeat (first | (with_reducible first | exact HB.out | apply below_alloc | apply pw_below_drewN | apply below_drew1 | refine below_set ?_ GE317.out | refine below_set ?_ GE325.out | refine below_set ?_ GE331.out) | exact HB.out)⟩⟩
            ·rw [if_neg c31] at H
             exact absurd H (by simp)
           ·rw [if_neg c27] at H
            have c27b0 : (((rd_T39 l1 x6_1).f0) == 0) = false := beq_eq_false_iff_ne.mpr c27
            have c27b1 : (((rd_T39 l1 x6_1).f0) != 0) = true := bne_iff_ne.mpr c27
            (first | rw [c27b0] | (simp only [i64_w, i32_w]; rw [c27b0]) | skip)
            by_cases c49 : ((rd_T39 l1 x6_1).f0) = 1
            ·rw [if_pos c49] at H
             have c49b0 : (((rd_T39 l1 x6_1).f0) == 1) = true := beq_iff_eq.mpr c49
             have c49b1 : (((rd_T39 l1 x6_1).f0) != 1) = false := bne_eq_false_iff_eq.mpr c49
             clear c49
             replace H := Option.bind_eq_some_iff.mp H
             obtain ⟨⟨t339, t342, t343, t344, t345, t346, t347, t348, t349, t350⟩, A500, H⟩ := H
             replace H : ((haywainref22_Give.f kj12 x5_1 ((rd_T39 l1 x6_1).f1)).bind fun bt353 => (if t350 = bt353.2.2.2.2.2.2.2.2.2 then ((haywainlaw22_As.f kj12 (([(⟨t342, t343, t344, t345, t346, t347, t348, t349⟩ : S23)] : List (S23)))).bind fun t369 => ((haywainref22_Same.f kj12 t369 (([(⟨bt353.2.1, bt353.2.2.1, bt353.2.2.2.1, bt353.2.2.2.2.1, bt353.2.2.2.2.2.1, bt353.2.2.2.2.2.2.1, bt353.2.2.2.2.2.2.2.1, bt353.2.2.2.2.2.2.2.2.1⟩ : S31)] : List (S31)))).bind fun t375 => (if t375 = true then (haywainlaw22_NetPlays.j2 kj12 l1 bt353.1 x6_1 t339) else (none)))) else (none))) = some r := H
             have A50 := Aside0.mk A500
             clear A500
             replace H := Option.bind_eq_some_iff.mp H
             obtain ⟨⟨t353, t356, t357, t358, t359, t360, t361, t362, t363, t364⟩, A510, H⟩ := H
             replace H : (if t350 = t364 then ((haywainlaw22_As.f kj12 (([(⟨t342, t343, t344, t345, t346, t347, t348, t349⟩ : S23)] : List (S23)))).bind fun t369 => ((haywainref22_Same.f kj12 t369 (([(⟨t356, t357, t358, t359, t360, t361, t362, t363⟩ : S31)] : List (S31)))).bind fun t375 => (if t375 = true then (haywainlaw22_NetPlays.j2 kj12 l1 t353 x6_1 t339) else (none)))) else (none)) = some r := H
             have A51 := Aside0.mk A510
             clear A510
             by_cases c52 : t350 = t364
             ·rw [if_pos c52] at H
              have c52b0 : (t350 == t364) = true := beq_iff_eq.mpr c52
              have c52b1 : (t350 != t364) = false := bne_eq_false_iff_eq.mpr c52
              clear c52
              obtain ⟨y366, hy366⟩ : ∃ y_ : List (S23), y_ = (([(⟨t342, t343, t344, t345, t346, t347, t348, t349⟩ : S23)] : List (S23))) := ⟨_, rfl⟩
              replace H : ((haywainlaw22_As.f kj12 y366).bind fun t369 => ((haywainref22_Same.f kj12 t369 (([(⟨t356, t357, t358, t359, t360, t361, t362, t363⟩ : S31)] : List (S31)))).bind fun t375 => (if t375 = true then (haywainlaw22_NetPlays.j2 kj12 l1 t353 x6_1 t339) else (none)))) = some r := by first | (rw [hy366]; with_reducible exact H) | (have H2_ := (Option.bind_some _ _).symm.trans H; rw [hy366]; with_reducible exact H2_) | (have H2_ := (Option.bind_some _ _).symm.trans H; with_reducible exact H2_) | with_reducible exact H | (rw [hy366]; exact H) | exact H
              have Ny366 := Aside0.mk hy366
              clear hy366
              replace H := Option.bind_eq_some_iff.mp H
              obtain ⟨t369, A530, H⟩ := H
              replace H : ((haywainref22_Same.f kj12 t369 (([(⟨t356, t357, t358, t359, t360, t361, t362, t363⟩ : S31)] : List (S31)))).bind fun t375 => (if t375 = true then (haywainlaw22_NetPlays.j2 kj12 l1 t353 x6_1 t339) else (none))) = some r := H
              have A53 := Aside0.mk A530
              clear A530
              obtain ⟨y372, hy372⟩ : ∃ y_ : List (S31), y_ = (([(⟨t356, t357, t358, t359, t360, t361, t362, t363⟩ : S31)] : List (S31))) := ⟨_, rfl⟩
              replace H : ((haywainref22_Same.f kj12 t369 y372).bind fun t375 => (if t375 = true then (haywainlaw22_NetPlays.j2 kj12 l1 t353 x6_1 t339) else (none))) = some r := by first | (rw [hy372]; with_reducible exact H) | (have H2_ := (Option.bind_some _ _).symm.trans H; rw [hy372]; with_reducible exact H2_) | (have H2_ := (Option.bind_some _ _).symm.trans H; with_reducible exact H2_) | with_reducible exact H | (rw [hy372]; exact H) | exact H
              have Ny372 := Aside0.mk hy372
              clear hy372
              replace H := Option.bind_eq_some_iff.mp H
              obtain ⟨t375, A540, H⟩ := H
              replace H : (if t375 = true then (haywainlaw22_NetPlays.j2 kj12 l1 t353 x6_1 t339) else (none)) = some r := H
              have A54 := Aside0.mk A540
              clear A540
              by_cases c55 : t375 = true
              ·subst c55
               have H1 : (haywainlaw22_NetPlays.j2 kj12 l1 t353 x6_1 t339) = some r := by rw [if_pos rfl] at H; exact H
               clear H
               have H := H1
               clear H1
               have H' := Aside0.mk H
               clear H
               have hnb56 := NB317_325.out
               have hnc56 := NB325_317.out
               have hcz57_0 : w24.cell? ⟨gb317, 0, none⟩ = some (u318000) := (blk_cell BK317.out 0).trans rfl
               have hfz57_0 := blk_frozen BK317.out 0
               have hcz58_0 : w24.cell? ⟨gb325, 0, none⟩ = some (.int .i64 0) := (blk_cell BK325.out 0).trans rfl
               have hcz58_1 : w24.cell? ⟨gb325, 1, none⟩ = some (.int .i64 0) := (blk_cell BK325.out 1).trans rfl
               have hcz58_2 : w24.cell? ⟨gb325, 2, none⟩ = some (.slice none 0 0) := (blk_cell BK325.out 2).trans rfl
               have hfz58_0 := blk_frozen BK325.out 0
               have hfz58_1 := blk_frozen BK325.out 1
               have hfz58_2 := blk_frozen BK325.out 2
               obtain ⟨Ao59, co59, eo59⟩ := Kd.V_slice HO_318000.out
               subst eo59
               try go_wp2_with (first | ((with_reducible refine gate_callee (f := 17) rfl ?_); refine goesL_ (some 95) rfl rfl Try.func17 (by kernel_rfl) rfl #[.agg #[.slice Ao59 x318000_1.length co59], .int .i64 ((rd_T39 l1 x6_1).f1)] rfl (by (try simp only [List.map_toArray, List.map_cons, List.map_nil]); first | done | rfl | (simp only [List.length_drop, List.length_take]; rfl)) ?_; (with_reducible refine (net_Give.calls kj12 _ _ x318000_1 ((rd_T39 l1 x6_1).f1) t339 t342 t343 t344 t345 t346 t347 t348 t349 t350 _ ?side1 ?side2 A50.out).mono ?_); (case side1 => refine (Kd.V_reads' (e := 23) (base := w.heap.size) (ok := fun k_ => ((((P0_0_ k_ ∨ w.heap.size ≤ k_)) ∧ k_ ≠ gb317) ∧ k_ ≠ gb325)) (n := x318000_1.length) (c := co59) ?_).2.2; exact (by (with_reducible repeat (first | apply Kd.V_alloc | apply Kd.V_drewN | apply Kd.V_drew)); exact (Kd.V_mono (Kd.V_far (p := ⟨gb325, 2, none⟩) (Kd.V_far (p := ⟨gb325, 1, none⟩) (Kd.V_far (p := ⟨gb325, 0, none⟩) (Kd.V_mono HO_318000.out (fun k_ hk => (⟨hk, hk.2⟩ : _ ∧ k_ ≠ gb325))) (fun _ hk => hk.2) (.int .i64 ((rd_T39 l1 x6_1).f0))) (fun _ hk => hk.2) (.int .i64 ((rd_T39 l1 x6_1).f1))) (fun _ hk => hk.2) (.slice A324_2 ((rd_T39 l1 x6_1).f2).length c324_2)) (fun _ h_ => h_.1)))); (case side2 => exact (Kd.V_reads' HO_318000.out).2.1); rintro e w60 ⟨v340, rfl, ho0, hb⟩; refine ⟨_, rfl, ?_⟩; have n0_ := Aside0.mk (Kd.V_below (by (with_reducible repeat (first | apply Kd.V_alloc | apply Kd.V_drewN | apply Kd.V_drew)); exact (Kd.V_mono (Kd.V_far (p := ⟨gb325, 2, none⟩) (Kd.V_far (p := ⟨gb325, 1, none⟩) (Kd.V_far (p := ⟨gb325, 0, none⟩) (Kd.V_mono HO_5.out (fun k_ hk => (⟨hk, hk.2⟩ : _ ∧ k_ ≠ gb325))) (fun _ hk => hk.2) (.int .i64 ((rd_T39 l1 x6_1).f0))) (fun _ hk => hk.2) (.int .i64 ((rd_T39 l1 x6_1).f1))) (fun _ hk => hk.2) (.slice A324_2 ((rd_T39 l1 x6_1).f2).length c324_2)) (fun _ h_ => h_.1))) hb); have n1_ := Aside0.mk (Kd.V_below (by (with_reducible repeat (first | apply Kd.V_alloc | apply Kd.V_drewN | apply Kd.V_drew)); exact (Kd.V_mono (Kd.V_far (p := ⟨gb325, 2, none⟩) (Kd.V_far (p := ⟨gb325, 1, none⟩) (Kd.V_far (p := ⟨gb325, 0, none⟩) (Kd.V_mono HO_318000.out (fun k_ hk => (⟨hk, hk.2⟩ : _ ∧ k_ ≠ gb325))) (fun _ hk => hk.2) (.int .i64 ((rd_T39 l1 x6_1).f0))) (fun _ hk => hk.2) (.int .i64 ((rd_T39 l1 x6_1).f1))) (fun _ hk => hk.2) (.slice A324_2 ((rd_T39 l1 x6_1).f2).length c324_2)) (fun _ h_ => h_.1))) hb); have n2_ := Aside0.mk (Kd.V_lower (Kd.V_mono (ok' := fun k_ => (P0_0_ k_ ∨ w.heap.size ≤ k_) ∧ k_ ≠ gb317 ∧ k_ ≠ gb325) ho0 (fun k_ hk_ => ⟨(.inr (Nat.le_trans (below_size (by repeat (first | (with_reducible first | exact HB.out | apply below_alloc | apply pw_below_drewN | apply below_drew1 | refine below_set ?_ GE317.out | refine below_set ?_ GE325.out) | exact HB.out))) hk_)), (Kd.freshB (g := gb317) (o := .cells #[.slice Ao59 x318000_1.length co59] 26 (0, 0)) (by (with_reducible repeat (first | refine blk_drewN ?_ _ | refine blk_drew ?_ | refine blk_alloc ?_ _)); refine blk_far ?_ NB317_325.out _; (with_reducible repeat (first | refine blk_drewN ?_ _ | refine blk_drew ?_ | refine blk_alloc ?_ _)); refine blk_far ?_ NB317_325.out _; (with_reducible repeat (first | refine blk_drewN ?_ _ | refine blk_drew ?_ | refine blk_alloc ?_ _)); refine blk_far ?_ NB317_325.out _; (with_reducible repeat (first | refine blk_drewN ?_ _ | refine blk_drew ?_ | refine blk_alloc ?_ _)); exact BK317.out) k_ hk_), (Kd.freshB (g := gb325) (o := .cells #[.int .i64 ((rd_T39 l1 x6_1).f0), .int .i64 ((rd_T39 l1 x6_1).f1), .slice A324_2 ((rd_T39 l1 x6_1).f2).length c324_2] 39 (0, 0)) (by (with_reducible repeat (first | refine blk_drewN ?_ _ | refine blk_drew ?_ | refine blk_alloc ?_ _)); refine blk_put (cs := #[.int .i64 ((rd_T39 l1 x6_1).f0), .int .i64 ((rd_T39 l1 x6_1).f1), .slice none 0 0]) ?_ 2 _ rfl; (with_reducible repeat (first | refine blk_drewN ?_ _ | refine blk_drew ?_ | refine blk_alloc ?_ _)); refine blk_put (cs := #[.int .i64 ((rd_T39 l1 x6_1).f0), .int .i64 0, .slice none 0 0]) ?_ 1 _ rfl; (with_reducible repeat (first | refine blk_drewN ?_ _ | refine blk_drew ?_ | refine blk_alloc ?_ _)); refine blk_put (cs := #[.int .i64 0, .int .i64 0, .slice none 0 0]) ?_ 0 _ rfl; (with_reducible repeat (first | refine blk_drewN ?_ _ | refine blk_drew ?_ | refine blk_alloc ?_ _)); exact BK325.out) k_ hk_)⟩)) (below_size (by repeat (first | (with_reducible first | exact HB.out | apply below_alloc | apply pw_below_drewN | apply below_drew1 | refine below_set ?_ GE317.out | refine below_set ?_ GE325.out) | exact HB.out)))); have n3_ := Aside0.mk (blk_below (g := gb317) (o := .cells #[.slice Ao59 x318000_1.length co59] 26 (0, 0)) (by (with_reducible repeat (first | refine blk_drewN ?_ _ | refine blk_drew ?_ | refine blk_alloc ?_ _)); refine blk_far ?_ NB317_325.out _; (with_reducible repeat (first | refine blk_drewN ?_ _ | refine blk_drew ?_ | refine blk_alloc ?_ _)); refine blk_far ?_ NB317_325.out _; (with_reducible repeat (first | refine blk_drewN ?_ _ | refine blk_drew ?_ | refine blk_alloc ?_ _)); refine blk_far ?_ NB317_325.out _; (with_reducible repeat (first | refine blk_drewN ?_ _ | refine blk_drew ?_ | refine blk_alloc ?_ _)); exact BK317.out) hb); have n4_ := Aside0.mk (blk_below (g := gb325) (o := .cells #[.int .i64 ((rd_T39 l1 x6_1).f0), .int .i64 ((rd_T39 l1 x6_1).f1), .slice A324_2 ((rd_T39 l1 x6_1).f2).length c324_2] 39 (0, 0)) (by (with_reducible repeat (first | refine blk_drewN ?_ _ | refine blk_drew ?_ | refine blk_alloc ?_ _)); refine blk_put (cs := #[.int .i64 ((rd_T39 l1 x6_1).f0), .int .i64 ((rd_T39 l1 x6_1).f1), .slice none 0 0]) ?_ 2 _ rfl; (with_reducible repeat (first | refine blk_drewN ?_ _ | refine blk_drew ?_ | refine blk_alloc ?_ _)); refine blk_put (cs := #[.int .i64 ((rd_T39 l1 x6_1).f0), .int .i64 0, .slice none 0 0]) ?_ 1 _ rfl; (with_reducible repeat (first | refine blk_drewN ?_ _ | refine blk_drew ?_ | refine blk_alloc ?_ _)); refine blk_put (cs := #[.int .i64 0, .int .i64 0, .slice none 0 0]) ?_ 0 _ rfl; (with_reducible repeat (first | refine blk_drewN ?_ _ | refine blk_drew ?_ | refine blk_alloc ?_ _)); exact BK325.out) hb); have n5_ := Aside0.mk (below_step (by repeat (first | (with_reducible first | exact HB.out | apply below_alloc | apply pw_below_drewN | apply below_drew1 | refine below_set ?_ GE317.out | refine below_set ?_ GE325.out) | exact HB.out)) hb); clear HO_5; clear HO_318000; clear BK317; clear BK325; clear HB; have HO_5 := n0_; have HO_318000 := n1_; have HO341 := n2_; have BK317 := n3_; have BK325 := n4_; have HB := n5_; clear n0_ n1_ n2_ n3_ n4_ n5_; (try clear hb); (try clear hb2); (try clear hk); (try clear hi); (try clear ho0)) | ((with_reducible refine gate_dst (N := 12) rfl ?_); (try (refine gate_guard (by rfl) ?_; dsimp only)); refine box_event ?hg (N := 12) ?hd (cs := #[.slice none 0 0]) (t := 26) ?hr ?_; (case hd => rfl); (case hg => rfl); (case hr => first | (go_simp; done) | (go_simp; rfl)); intro gb351 hg w61 hbox hb; have n0_ := Aside0.mk (Kd.V_below (Kd.V_elderB (by (with_reducible repeat (first | apply Kd.V_alloc | apply Kd.V_drewN | apply Kd.V_drew)); exact HO_5.out) gb351 (Nat.le_of_eq hg.symm)) hb); have n1_ := Aside0.mk (Kd.V_below (Kd.V_elderB (by (with_reducible repeat (first | apply Kd.V_alloc | apply Kd.V_drewN | apply Kd.V_drew)); exact HO_318000.out) gb351 (Nat.le_of_eq hg.symm)) hb); have n2_ := Aside0.mk (Kd.V_below (Kd.V_elderB (by (with_reducible repeat (first | apply Kd.V_alloc | apply Kd.V_drewN | apply Kd.V_drew)); exact HO341.out) gb351 (Nat.le_of_eq hg.symm)) hb); have n3_ := Aside0.mk (blk_below (g := gb317) (o := .cells #[.slice Ao59 x318000_1.length co59] 26 (0, 0)) (by (with_reducible repeat (first | refine blk_drewN ?_ _ | refine blk_drew ?_ | refine blk_alloc ?_ _)); exact BK317.out) hb); have n4_ := Aside0.mk (blk_below (g := gb325) (o := .cells #[.int .i64 ((rd_T39 l1 x6_1).f0), .int .i64 ((rd_T39 l1 x6_1).f1), .slice A324_2 ((rd_T39 l1 x6_1).f2).length c324_2] 39 (0, 0)) (by (with_reducible repeat (first | refine blk_drewN ?_ _ | refine blk_drew ?_ | refine blk_alloc ?_ _)); exact BK325.out) hb); have n5_ := Aside0.mk (below_step (by repeat (first | (with_reducible first | exact HB.out | apply below_alloc | apply pw_below_drewN | apply below_drew1 | refine below_set ?_ GE317.out | refine below_set ?_ GE325.out) | exact HB.out)) hb); have n6_ := Aside0.mk (hbox); have n7_ := Aside0.mk ((by rw [hg]; exact (below_size (by repeat (first | (with_reducible first | exact HB.out | apply below_alloc | apply pw_below_drewN | apply below_drew1 | refine below_set ?_ GE317.out | refine below_set ?_ GE325.out) | exact HB.out))) : w.heap.size ≤ gb351)); have n8_ := Aside0.mk ((by rw [hg]; exact (below_size (by repeat (first | (with_reducible first | exact HB.out | apply below_alloc | apply pw_below_drewN | apply below_drew1 | refine below_set ?_ GE317.out | refine below_set ?_ GE325.out) | exact HB.out))) : w.heap.size ≤ gb351)); have n9_ := Aside0.mk ((by rw [hg]; exact Nat.ne_of_lt (blk_lt (g := gb317) (o := .cells #[.slice Ao59 x318000_1.length co59] 26 (0, 0)) (by (with_reducible repeat (first | refine blk_drewN ?_ _ | refine blk_drew ?_ | refine blk_alloc ?_ _)); exact BK317.out)) : gb317 ≠ gb351)); have n10_ := Aside0.mk ((by rw [hg]; exact Nat.ne_of_gt (blk_lt (g := gb317) (o := .cells #[.slice Ao59 x318000_1.length co59] 26 (0, 0)) (by (with_reducible repeat (first | refine blk_drewN ?_ _ | refine blk_drew ?_ | refine blk_alloc ?_ _)); exact BK317.out)) : gb351 ≠ gb317)); have n11_ := Aside0.mk ((by rw [hg]; exact Nat.ne_of_lt (blk_lt (g := gb325) (o := .cells #[.int .i64 ((rd_T39 l1 x6_1).f0), .int .i64 ((rd_T39 l1 x6_1).f1), .slice A324_2 ((rd_T39 l1 x6_1).f2).length c324_2] 39 (0, 0)) (by (with_reducible repeat (first | refine blk_drewN ?_ _ | refine blk_drew ?_ | refine blk_alloc ?_ _)); exact BK325.out)) : gb325 ≠ gb351)); have n12_ := Aside0.mk ((by rw [hg]; exact Nat.ne_of_gt (blk_lt (g := gb325) (o := .cells #[.int .i64 ((rd_T39 l1 x6_1).f0), .int .i64 ((rd_T39 l1 x6_1).f1), .slice A324_2 ((rd_T39 l1 x6_1).f2).length c324_2] 39 (0, 0)) (by (with_reducible repeat (first | refine blk_drewN ?_ _ | refine blk_drew ?_ | refine blk_alloc ?_ _)); exact BK325.out)) : gb351 ≠ gb325)); clear HO_5; clear HO_318000; clear HO341; clear BK317; clear BK325; clear HB; have HO_5 := n0_; have HO_318000 := n1_; have HO341 := n2_; have BK317 := n3_; have BK325 := n4_; have HB := n5_; have BK351 := n6_; have GW351 := n7_; have GE351 := n8_; have NB317_351 := n9_; have NB351_317 := n10_; have NB325_351 := n11_; have NB351_325 := n12_; clear n0_ n1_ n2_ n3_ n4_ n5_ n6_ n7_ n8_ n9_ n10_ n11_ n12_; clear hb hbox hg) | ((with_reducible refine gate_dst (N := 13) rfl ?_); (try (refine gate_guard (by rfl) ?_; dsimp only)); refine box_event ?hg (N := 13) ?hd (cs := #[.int .i64 0, .int .i64 0, .int .i64 0, .int .i64 0, .int .i64 0, .int .i64 0, .int .i64 0, .string (⟨#[]⟩ : ByteArray)]) (t := 23) ?hr ?_; (case hd => rfl); (case hg => rfl); (case hr => first | (go_simp; done) | (go_simp; rfl)); intro gb352 hg w62 hbox hb; have n0_ := Aside0.mk (Kd.V_below (Kd.V_elderB (by (with_reducible repeat (first | apply Kd.V_alloc | apply Kd.V_drewN | apply Kd.V_drew)); exact HO_5.out) gb352 (Nat.le_of_eq hg.symm)) hb); have n1_ := Aside0.mk (Kd.V_below (Kd.V_elderB (by (with_reducible repeat (first | apply Kd.V_alloc | apply Kd.V_drewN | apply Kd.V_drew)); exact HO_318000.out) gb352 (Nat.le_of_eq hg.symm)) hb); have n2_ := Aside0.mk (Kd.V_below (Kd.V_elderB (by (with_reducible repeat (first | apply Kd.V_alloc | apply Kd.V_drewN | apply Kd.V_drew)); exact HO341.out) gb352 (Nat.le_of_eq hg.symm)) hb); have n3_ := Aside0.mk (blk_below (g := gb317) (o := .cells #[.slice Ao59 x318000_1.length co59] 26 (0, 0)) (by (with_reducible repeat (first | refine blk_drewN ?_ _ | refine blk_drew ?_ | refine blk_alloc ?_ _)); exact BK317.out) hb); have n4_ := Aside0.mk (blk_below (g := gb325) (o := .cells #[.int .i64 ((rd_T39 l1 x6_1).f0), .int .i64 ((rd_T39 l1 x6_1).f1), .slice A324_2 ((rd_T39 l1 x6_1).f2).length c324_2] 39 (0, 0)) (by (with_reducible repeat (first | refine blk_drewN ?_ _ | refine blk_drew ?_ | refine blk_alloc ?_ _)); exact BK325.out) hb); have n5_ := Aside0.mk (blk_below (g := gb351) (o := .cells #[.slice none 0 0] 26 (0, 0)) (by (with_reducible repeat (first | refine blk_drewN ?_ _ | refine blk_drew ?_ | refine blk_alloc ?_ _)); exact BK351.out) hb); have n6_ := Aside0.mk (below_step (by repeat (first | (with_reducible first | exact HB.out | apply below_alloc | apply pw_below_drewN | apply below_drew1 | refine below_set ?_ GE317.out | refine below_set ?_ GE325.out | refine below_set ?_ GE351.out) | exact HB.out)) hb); have n7_ := Aside0.mk (hbox); have n8_ := Aside0.mk ((by rw [hg]; exact (below_size (by repeat (first | (with_reducible first | exact HB.out | apply below_alloc | apply pw_below_drewN | apply below_drew1 | refine below_set ?_ GE317.out | refine below_set ?_ GE325.out | refine below_set ?_ GE351.out) | exact HB.out))) : w.heap.size ≤ gb352)); have n9_ := Aside0.mk ((by rw [hg]; exact (below_size (by repeat (first | (with_reducible first | exact HB.out | apply below_alloc | apply pw_below_drewN | apply below_drew1 | refine below_set ?_ GE317.out | refine below_set ?_ GE325.out | refine below_set ?_ GE351.out) | exact HB.out))) : w.heap.size ≤ gb352)); have n10_ := Aside0.mk ((by rw [hg]; exact Nat.ne_of_lt (blk_lt (g := gb317) (o := .cells #[.slice Ao59 x318000_1.length co59] 26 (0, 0)) (by (with_reducible repeat (first | refine blk_drewN ?_ _ | refine blk_drew ?_ | refine blk_alloc ?_ _)); exact BK317.out)) : gb317 ≠ gb352)); have n11_ := Aside0.mk ((by rw [hg]; exact Nat.ne_of_gt (blk_lt (g := gb317) (o := .cells #[.slice Ao59 x318000_1.length co59] 26 (0, 0)) (by (with_reducible repeat (first | refine blk_drewN ?_ _ | refine blk_drew ?_ | refine blk_alloc ?_ _)); exact BK317.out)) : gb352 ≠ gb317)); have n12_ := Aside0.mk ((by rw [hg]; exact Nat.ne_of_lt (blk_lt (g := gb325) (o := .cells #[.int .i64 ((rd_T39 l1 x6_1).f0), .int .i64 ((rd_T39 l1 x6_1).f1), .slice A324_2 ((rd_T39 l1 x6_1).f2).length c324_2] 39 (0, 0)) (by (with_reducible repeat (first | refine blk_drewN ?_ _ | refine blk_drew ?_ | refine blk_alloc ?_ _)); exact BK325.out)) : gb325 ≠ gb352)); have n13_ := Aside0.mk ((by rw [hg]; exact Nat.ne_of_gt (blk_lt (g := gb325) (o := .cells #[.int .i64 ((rd_T39 l1 x6_1).f0), .int .i64 ((rd_T39 l1 x6_1).f1), .slice A324_2 ((rd_T39 l1 x6_1).f2).length c324_2] 39 (0, 0)) (by (with_reducible repeat (first | refine blk_drewN ?_ _ | refine blk_drew ?_ | refine blk_alloc ?_ _)); exact BK325.out)) : gb352 ≠ gb325)); have n14_ := Aside0.mk ((by rw [hg]; exact Nat.ne_of_lt (blk_lt (g := gb351) (o := .cells #[.slice none 0 0] 26 (0, 0)) (by (with_reducible repeat (first | refine blk_drewN ?_ _ | refine blk_drew ?_ | refine blk_alloc ?_ _)); exact BK351.out)) : gb351 ≠ gb352)); have n15_ := Aside0.mk ((by rw [hg]; exact Nat.ne_of_gt (blk_lt (g := gb351) (o := .cells #[.slice none 0 0] 26 (0, 0)) (by (with_reducible repeat (first | refine blk_drewN ?_ _ | refine blk_drew ?_ | refine blk_alloc ?_ _)); exact BK351.out)) : gb352 ≠ gb351)); clear HO_5; clear HO_318000; clear HO341; clear BK317; clear BK325; clear BK351; clear HB; have HO_5 := n0_; have HO_318000 := n1_; have HO341 := n2_; have BK317 := n3_; have BK325 := n4_; have BK351 := n5_; have HB := n6_; have BK352 := n7_; have GW352 := n8_; have GE352 := n9_; have NB317_352 := n10_; have NB352_317 := n11_; have NB325_352 := n12_; have NB352_325 := n13_; have NB351_352 := n14_; have NB352_351 := n15_; clear n0_ n1_ n2_ n3_ n4_ n5_ n6_ n7_ n8_ n9_ n10_ n11_ n12_ n13_ n14_ n15_; clear hb hbox hg; obtain ⟨Ao63, co63, eo63⟩ := Kd.V_slice HO341.out; subst eo63; have hnb64 := NB351_317.out; have hnc64 := NB317_351.out; have hnb65 := NB351_325.out; have hnc65 := NB325_351.out; have hnb66 := NB351_352.out; have hnc66 := NB352_351.out; have hcz67_0 : w62.cell? ⟨gb351, 0, none⟩ = some (.slice none 0 0) := (blk_cell BK351.out 0).trans rfl; have hfz67_0 := blk_frozen BK351.out 0) | ((with_reducible refine gate_store (t := 26) (p := 12) rfl ?_); refine store_event (t := 26) (p := 12) (v := ?vo_w68) (w1 := (w62.setCell ⟨gb351, 0, none⟩ (.slice Ao63 t339.length co63))) ?hg ?ho ?hn ?hr ?_; (case ho => rfl); (case hg => rfl); (case hn => rfl); (case hr => first | (go_simp; done) | (go_simp; rfl)); intro w68 hw; have n0_ : Aside0 (Kd.V k31 31 w68 w.heap.size (fun k_ => (P0_0_ k_ ∨ w.heap.size ≤ k_) ∧ k_ ≠ gb317 ∧ k_ ≠ gb325 ∧ k_ ≠ gb351 ∧ k_ ≠ gb352) u5 x5_1) := ⟨(by rw [hw]; exact (by (with_reducible repeat (first | apply Kd.V_alloc | apply Kd.V_drewN | apply Kd.V_drew)); exact Kd.V_mono (Kd.V_far (p := ⟨gb351, 0, none⟩) (Kd.V_mono HO_5.out (fun k_ hk => (⟨hk, hk.1.2⟩ : _ ∧ k_ ≠ gb351))) (fun _ hk => hk.2) (.slice Ao63 t339.length co63)) (fun _ hk => ⟨hk.1.1.1.1.1, ⟨hk.1.1.1.1.2, ⟨hk.1.1.1.2, ⟨hk.1.1.2, hk.1.2⟩⟩⟩⟩)))⟩; have n1_ : Aside0 (Kd.V k23 23 w68 w.heap.size (fun k_ => (P0_0_ k_ ∨ w.heap.size ≤ k_) ∧ k_ ≠ gb317 ∧ k_ ≠ gb325 ∧ k_ ≠ gb351 ∧ k_ ≠ gb352) (.slice Ao59 x318000_1.length co59) x318000_1) := ⟨(by rw [hw]; exact (by (with_reducible repeat (first | apply Kd.V_alloc | apply Kd.V_drewN | apply Kd.V_drew)); exact Kd.V_mono (Kd.V_far (p := ⟨gb351, 0, none⟩) (Kd.V_mono HO_318000.out (fun k_ hk => (⟨hk, hk.1.2⟩ : _ ∧ k_ ≠ gb351))) (fun _ hk => hk.2) (.slice Ao63 t339.length co63)) (fun _ hk => ⟨hk.1.1.1.1.1, ⟨hk.1.1.1.1.2, ⟨hk.1.1.1.2, ⟨hk.1.1.2, hk.1.2⟩⟩⟩⟩)))⟩; have n2_ : Aside0 (Kd.V k23 23 w68 w.heap.size (fun k_ => (P0_0_ k_ ∨ w.heap.size ≤ k_) ∧ k_ ≠ gb317 ∧ k_ ≠ gb325 ∧ k_ ≠ gb351 ∧ k_ ≠ gb352) (.slice Ao63 t339.length co63) t339) := ⟨(by rw [hw]; exact (by (with_reducible repeat (first | apply Kd.V_alloc | apply Kd.V_drewN | apply Kd.V_drew)); exact Kd.V_mono (Kd.V_far (p := ⟨gb351, 0, none⟩) (Kd.V_mono HO341.out (fun k_ hk => (⟨hk, hk.1.2⟩ : _ ∧ k_ ≠ gb351))) (fun _ hk => hk.2) (.slice Ao63 t339.length co63)) (fun _ hk => ⟨hk.1.1.1.1, ⟨hk.1.1.1.2.1, ⟨hk.1.1.1.2.2, ⟨hk.1.1.2, hk.1.2⟩⟩⟩⟩)))⟩; have n3_ : Aside0 (w68.heap[gb317]? = some (.cells #[.slice Ao59 x318000_1.length co59] 26 (0, 0))) := ⟨(by rw [hw]; exact (by (with_reducible repeat (first | refine blk_drewN ?_ _ | refine blk_drew ?_ | refine blk_alloc ?_ _)); refine blk_far ?_ NB317_351.out _; (with_reducible repeat (first | refine blk_drewN ?_ _ | refine blk_drew ?_ | refine blk_alloc ?_ _)); exact BK317.out))⟩; have n4_ : Aside0 (w68.heap[gb325]? = some (.cells #[.int .i64 ((rd_T39 l1 x6_1).f0), .int .i64 ((rd_T39 l1 x6_1).f1), .slice A324_2 ((rd_T39 l1 x6_1).f2).length c324_2] 39 (0, 0))) := ⟨(by rw [hw]; exact (by (with_reducible repeat (first | refine blk_drewN ?_ _ | refine blk_drew ?_ | refine blk_alloc ?_ _)); refine blk_far ?_ NB325_351.out _; (with_reducible repeat (first | refine blk_drewN ?_ _ | refine blk_drew ?_ | refine blk_alloc ?_ _)); exact BK325.out))⟩; have n5_ : Aside0 (w68.heap[gb351]? = some (.cells #[.slice Ao63 t339.length co63] 26 (0, 0))) := ⟨(by rw [hw]; exact (by (with_reducible repeat (first | refine blk_drewN ?_ _ | refine blk_drew ?_ | refine blk_alloc ?_ _)); refine blk_put (cs := #[.slice none 0 0]) ?_ 0 _ rfl; (with_reducible repeat (first | refine blk_drewN ?_ _ | refine blk_drew ?_ | refine blk_alloc ?_ _)); exact BK351.out))⟩; have n6_ : Aside0 (w68.heap[gb352]? = some (.cells #[.int .i64 0, .int .i64 0, .int .i64 0, .int .i64 0, .int .i64 0, .int .i64 0, .int .i64 0, .string (⟨#[]⟩ : ByteArray)] 23 (0, 0))) := ⟨(by rw [hw]; exact (by (with_reducible repeat (first | refine blk_drewN ?_ _ | refine blk_drew ?_ | refine blk_alloc ?_ _)); refine blk_far ?_ NB352_351.out _; (with_reducible repeat (first | refine blk_drewN ?_ _ | refine blk_drew ?_ | refine blk_alloc ?_ _)); exact BK352.out))⟩; have n7_ : Aside0 (Below w.heap.size w w68) := ⟨(by rw [hw]; exact (by repeat (first | (with_reducible first | exact HB.out | apply below_alloc | apply pw_below_drewN | apply below_drew1 | refine below_set ?_ GE317.out | refine below_set ?_ GE325.out | refine below_set ?_ GE351.out | refine below_set ?_ GE352.out) | exact HB.out)))⟩; clear hw; clear HO_5; clear HO_318000; clear HO341; clear BK317; clear BK325; clear BK351; clear BK352; clear HB; have HO_5 := n0_; have HO_318000 := n1_; have HO341 := n2_; have BK317 := n3_; have BK325 := n4_; have BK351 := n5_; have BK352 := n6_; have HB := n7_; clear n0_ n1_ n2_ n3_ n4_ n5_ n6_ n7_; have hnb69 := NB352_317.out; have hnc69 := NB317_352.out; have hnb70 := NB352_325.out; have hnc70 := NB325_352.out; have hcz71_0 : w68.cell? ⟨gb352, 0, none⟩ = some (.int .i64 0) := (blk_cell BK352.out 0).trans rfl; have hcz71_1 : w68.cell? ⟨gb352, 1, none⟩ = some (.int .i64 0) := (blk_cell BK352.out 1).trans rfl; have hcz71_2 : w68.cell? ⟨gb352, 2, none⟩ = some (.int .i64 0) := (blk_cell BK352.out 2).trans rfl; have hcz71_3 : w68.cell? ⟨gb352, 3, none⟩ = some (.int .i64 0) := (blk_cell BK352.out 3).trans rfl; have hcz71_4 : w68.cell? ⟨gb352, 4, none⟩ = some (.int .i64 0) := (blk_cell BK352.out 4).trans rfl; have hcz71_5 : w68.cell? ⟨gb352, 5, none⟩ = some (.int .i64 0) := (blk_cell BK352.out 5).trans rfl; have hcz71_6 : w68.cell? ⟨gb352, 6, none⟩ = some (.int .i64 0) := (blk_cell BK352.out 6).trans rfl; have hcz71_7 : w68.cell? ⟨gb352, 7, none⟩ = some (.string (⟨#[]⟩ : ByteArray)) := (blk_cell BK352.out 7).trans rfl; have hfz71_0 := blk_frozen BK352.out 0; have hfz71_1 := blk_frozen BK352.out 1; have hfz71_2 := blk_frozen BK352.out 2; have hfz71_3 := blk_frozen BK352.out 3; have hfz71_4 := blk_frozen BK352.out 4; have hfz71_5 := blk_frozen BK352.out 5; have hfz71_6 := blk_frozen BK352.out 6; have hfz71_7 := blk_frozen BK352.out 7) | ((with_reducible refine gate_store (t := 23) (p := 13) rfl ?_); refine store_event (t := 23) (p := 13) (v := ?vo_w72) (w1 := ((((((((w68.setCell ⟨gb352, 0, none⟩ (.int .i64 t342)).setCell ⟨gb352, 1, none⟩ (.int .i64 t343)).setCell ⟨gb352, 2, none⟩ (.int .i64 t344)).setCell ⟨gb352, 3, none⟩ (.int .i64 t345)).setCell ⟨gb352, 4, none⟩ (.int .i64 t346)).setCell ⟨gb352, 5, none⟩ (.int .i64 t347)).setCell ⟨gb352, 6, none⟩ (.int .i64 t348)).setCell ⟨gb352, 7, none⟩ (.string t349))) ?hg ?ho ?hn ?hr ?_; (case ho => rfl); (case hg => rfl); (case hn => rfl); (case hr => first | (go_simp; done) | (go_simp; rfl)); intro w72 hw; have n0_ : Aside0 (Kd.V k31 31 w72 w.heap.size (fun k_ => (P0_0_ k_ ∨ w.heap.size ≤ k_) ∧ k_ ≠ gb317 ∧ k_ ≠ gb325 ∧ k_ ≠ gb351 ∧ k_ ≠ gb352) u5 x5_1) := ⟨(by rw [hw]; exact (by (with_reducible repeat (first | apply Kd.V_alloc | apply Kd.V_drewN | apply Kd.V_drew)); exact Kd.V_mono (Kd.V_far (p := ⟨gb352, 7, none⟩) (Kd.V_far (p := ⟨gb352, 6, none⟩) (Kd.V_far (p := ⟨gb352, 5, none⟩) (Kd.V_far (p := ⟨gb352, 4, none⟩) (Kd.V_far (p := ⟨gb352, 3, none⟩) (Kd.V_far (p := ⟨gb352, 2, none⟩) (Kd.V_far (p := ⟨gb352, 1, none⟩) (Kd.V_far (p := ⟨gb352, 0, none⟩) (Kd.V_mono HO_5.out (fun k_ hk => (⟨hk, hk.2.2.2.2⟩ : _ ∧ k_ ≠ gb352))) (fun _ hk => hk.2) (.int .i64 t342)) (fun _ hk => hk.2) (.int .i64 t343)) (fun _ hk => hk.2) (.int .i64 t344)) (fun _ hk => hk.2) (.int .i64 t345)) (fun _ hk => hk.2) (.int .i64 t346)) (fun _ hk => hk.2) (.int .i64 t347)) (fun _ hk => hk.2) (.int .i64 t348)) (fun _ hk => hk.2) (.string t349)) (fun _ hk => ⟨hk.1.1, ⟨hk.1.2.1, ⟨hk.1.2.2.1, ⟨hk.1.2.2.2.1, hk.1.2.2.2.2⟩⟩⟩⟩)))⟩; have n1_ : Aside0 (Kd.V k23 23 w72 w.heap.size (fun k_ => (P0_0_ k_ ∨ w.heap.size ≤ k_) ∧ k_ ≠ gb317 ∧ k_ ≠ gb325 ∧ k_ ≠ gb351 ∧ k_ ≠ gb352) (.slice Ao59 x318000_1.length co59) x318000_1) := ⟨(by rw [hw]; exact (by (with_reducible repeat (first | apply Kd.V_alloc | apply Kd.V_drewN | apply Kd.V_drew)); exact Kd.V_mono (Kd.V_far (p := ⟨gb352, 7, none⟩) (Kd.V_far (p := ⟨gb352, 6, none⟩) (Kd.V_far (p := ⟨gb352, 5, none⟩) (Kd.V_far (p := ⟨gb352, 4, none⟩) (Kd.V_far (p := ⟨gb352, 3, none⟩) (Kd.V_far (p := ⟨gb352, 2, none⟩) (Kd.V_far (p := ⟨gb352, 1, none⟩) (Kd.V_far (p := ⟨gb352, 0, none⟩) (Kd.V_mono HO_318000.out (fun k_ hk => (⟨hk, hk.2.2.2.2⟩ : _ ∧ k_ ≠ gb352))) (fun _ hk => hk.2) (.int .i64 t342)) (fun _ hk => hk.2) (.int .i64 t343)) (fun _ hk => hk.2) (.int .i64 t344)) (fun _ hk => hk.2) (.int .i64 t345)) (fun _ hk => hk.2) (.int .i64 t346)) (fun _ hk => hk.2) (.int .i64 t347)) (fun _ hk => hk.2) (.int .i64 t348)) (fun _ hk => hk.2) (.string t349)) (fun _ hk => ⟨hk.1.1, ⟨hk.1.2.1, ⟨hk.1.2.2.1, ⟨hk.1.2.2.2.1, hk.1.2.2.2.2⟩⟩⟩⟩)))⟩; have n2_ : Aside0 (Kd.V k23 23 w72 w.heap.size (fun k_ => (P0_0_ k_ ∨ w.heap.size ≤ k_) ∧ k_ ≠ gb317 ∧ k_ ≠ gb325 ∧ k_ ≠ gb351 ∧ k_ ≠ gb352) (.slice Ao63 t339.length co63) t339) := ⟨(by rw [hw]; exact (by (with_reducible repeat (first | apply Kd.V_alloc | apply Kd.V_drewN | apply Kd.V_drew)); exact Kd.V_mono (Kd.V_far (p := ⟨gb352, 7, none⟩) (Kd.V_far (p := ⟨gb352, 6, none⟩) (Kd.V_far (p := ⟨gb352, 5, none⟩) (Kd.V_far (p := ⟨gb352, 4, none⟩) (Kd.V_far (p := ⟨gb352, 3, none⟩) (Kd.V_far (p := ⟨gb352, 2, none⟩) (Kd.V_far (p := ⟨gb352, 1, none⟩) (Kd.V_far (p := ⟨gb352, 0, none⟩) (Kd.V_mono HO341.out (fun k_ hk => (⟨hk, hk.2.2.2.2⟩ : _ ∧ k_ ≠ gb352))) (fun _ hk => hk.2) (.int .i64 t342)) (fun _ hk => hk.2) (.int .i64 t343)) (fun _ hk => hk.2) (.int .i64 t344)) (fun _ hk => hk.2) (.int .i64 t345)) (fun _ hk => hk.2) (.int .i64 t346)) (fun _ hk => hk.2) (.int .i64 t347)) (fun _ hk => hk.2) (.int .i64 t348)) (fun _ hk => hk.2) (.string t349)) (fun _ hk => ⟨hk.1.1, ⟨hk.1.2.1, ⟨hk.1.2.2.1, ⟨hk.1.2.2.2.1, hk.1.2.2.2.2⟩⟩⟩⟩)))⟩; have n3_ : Aside0 (w72.heap[gb317]? = some (.cells #[.slice Ao59 x318000_1.length co59] 26 (0, 0))) := ⟨(by rw [hw]; exact (by (with_reducible repeat (first | refine blk_drewN ?_ _ | refine blk_drew ?_ | refine blk_alloc ?_ _)); refine blk_far ?_ NB317_352.out _; (with_reducible repeat (first | refine blk_drewN ?_ _ | refine blk_drew ?_ | refine blk_alloc ?_ _)); refine blk_far ?_ NB317_352.out _; (with_reducible repeat (first | refine blk_drewN ?_ _ | refine blk_drew ?_ | refine blk_alloc ?_ _)); refine blk_far ?_ NB317_352.out _; (with_reducible repeat (first | refine blk_drewN ?_ _ | refine blk_drew ?_ | refine blk_alloc ?_ _)); refine blk_far ?_ NB317_352.out _; (with_reducible repeat (first | refine blk_drewN ?_ _ | refine blk_drew ?_ | refine blk_alloc ?_ _)); refine blk_far ?_ NB317_352.out _; (with_reducible repeat (first | refine blk_drewN ?_ _ | refine blk_drew ?_ | refine blk_alloc ?_ _)); refine blk_far ?_ NB317_352.out _; (with_reducible repeat (first | refine blk_drewN ?_ _ | refine blk_drew ?_ | refine blk_alloc ?_ _)); refine blk_far ?_ NB317_352.out _; (with_reducible repeat (first | refine blk_drewN ?_ _ | refine blk_drew ?_ | refine blk_alloc ?_ _)); refine blk_far ?_ NB317_352.out _; (with_reducible repeat (first | refine blk_drewN ?_ _ | refine blk_drew ?_ | refine blk_alloc ?_ _)); exact BK317.out))⟩; have n4_ : Aside0 (w72.heap[gb325]? = some (.cells #[.int .i64 ((rd_T39 l1 x6_1).f0), .int .i64 ((rd_T39 l1 x6_1).f1), .slice A324_2 ((rd_T39 l1 x6_1).f2).length c324_2] 39 (0, 0))) := ⟨(by rw [hw]; exact (by (with_reducible repeat (first | refine blk_drewN ?_ _ | refine blk_drew ?_ | refine blk_alloc ?_ _)); refine blk_far ?_ NB325_352.out _; (with_reducible repeat (first | refine blk_drewN ?_ _ | refine blk_drew ?_ | refine blk_alloc ?_ _)); refine blk_far ?_ NB325_352.out _; (with_reducible repeat (first | refine blk_drewN ?_ _ | refine blk_drew ?_ | refine blk_alloc ?_ _)); refine blk_far ?_ NB325_352.out _; (with_reducible repeat (first | refine blk_drewN ?_ _ | refine blk_drew ?_ | refine blk_alloc ?_ _)); refine blk_far ?_ NB325_352.out _; (with_reducible repeat (first | refine blk_drewN ?_ _ | refine blk_drew ?_ | refine blk_alloc ?_ _)); refine blk_far ?_ NB325_352.out _; (with_reducible repeat (first | refine blk_drewN ?_ _ | refine blk_drew ?_ | refine blk_alloc ?_ _)); refine blk_far ?_ NB325_352.out _; (with_reducible repeat (first | refine blk_drewN ?_ _ | refine blk_drew ?_ | refine blk_alloc ?_ _)); refine blk_far ?_ NB325_352.out _; (with_reducible repeat (first | refine blk_drewN ?_ _ | refine blk_drew ?_ | refine blk_alloc ?_ _)); refine blk_far ?_ NB325_352.out _; (with_reducible repeat (first | refine blk_drewN ?_ _ | refine blk_drew ?_ | refine blk_alloc ?_ _)); exact BK325.out))⟩; have n5_ : Aside0 (w72.heap[gb351]? = some (.cells #[.slice Ao63 t339.length co63] 26 (0, 0))) := ⟨(by rw [hw]; exact (by (with_reducible repeat (first | refine blk_drewN ?_ _ | refine blk_drew ?_ | refine blk_alloc ?_ _)); refine blk_far ?_ NB351_352.out _; (with_reducible repeat (first | refine blk_drewN ?_ _ | refine blk_drew ?_ | refine blk_alloc ?_ _)); refine blk_far ?_ NB351_352.out _; (with_reducible repeat (first | refine blk_drewN ?_ _ | refine blk_drew ?_ | refine blk_alloc ?_ _)); refine blk_far ?_ NB351_352.out _; (with_reducible repeat (first | refine blk_drewN ?_ _ | refine blk_drew ?_ | refine blk_alloc ?_ _)); refine blk_far ?_ NB351_352.out _; (with_reducible repeat (first | refine blk_drewN ?_ _ | refine blk_drew ?_ | refine blk_alloc ?_ _)); refine blk_far ?_ NB351_352.out _; (with_reducible repeat (first | refine blk_drewN ?_ _ | refine blk_drew ?_ | refine blk_alloc ?_ _)); refine blk_far ?_ NB351_352.out _; (with_reducible repeat (first | refine blk_drewN ?_ _ | refine blk_drew ?_ | refine blk_alloc ?_ _)); refine blk_far ?_ NB351_352.out _; (with_reducible repeat (first | refine blk_drewN ?_ _ | refine blk_drew ?_ | refine blk_alloc ?_ _)); refine blk_far ?_ NB351_352.out _; (with_reducible repeat (first | refine blk_drewN ?_ _ | refine blk_drew ?_ | refine blk_alloc ?_ _)); exact BK351.out))⟩; have n6_ : Aside0 (w72.heap[gb352]? = some (.cells #[.int .i64 t342, .int .i64 t343, .int .i64 t344, .int .i64 t345, .int .i64 t346, .int .i64 t347, .int .i64 t348, .string t349] 23 (0, 0))) := ⟨(by rw [hw]; exact (by (with_reducible repeat (first | refine blk_drewN ?_ _ | refine blk_drew ?_ | refine blk_alloc ?_ _)); refine blk_put (cs := #[.int .i64 t342, .int .i64 t343, .int .i64 t344, .int .i64 t345, .int .i64 t346, .int .i64 t347, .int .i64 t348, .string (⟨#[]⟩ : ByteArray)]) ?_ 7 _ rfl; (with_reducible repeat (first | refine blk_drewN ?_ _ | refine blk_drew ?_ | refine blk_alloc ?_ _)); refine blk_put (cs := #[.int .i64 t342, .int .i64 t343, .int .i64 t344, .int .i64 t345, .int .i64 t346, .int .i64 t347, .int .i64 0, .string (⟨#[]⟩ : ByteArray)]) ?_ 6 _ rfl; (with_reducible repeat (first | refine blk_drewN ?_ _ | refine blk_drew ?_ | refine blk_alloc ?_ _)); refine blk_put (cs := #[.int .i64 t342, .int .i64 t343, .int .i64 t344, .int .i64 t345, .int .i64 t346, .int .i64 0, .int .i64 0, .string (⟨#[]⟩ : ByteArray)]) ?_ 5 _ rfl; (with_reducible repeat (first | refine blk_drewN ?_ _ | refine blk_drew ?_ | refine blk_alloc ?_ _)); refine blk_put (cs := #[.int .i64 t342, .int .i64 t343, .int .i64 t344, .int .i64 t345, .int .i64 0, .int .i64 0, .int .i64 0, .string (⟨#[]⟩ : ByteArray)]) ?_ 4 _ rfl; (with_reducible repeat (first | refine blk_drewN ?_ _ | refine blk_drew ?_ | refine blk_alloc ?_ _)); refine blk_put (cs := #[.int .i64 t342, .int .i64 t343, .int .i64 t344, .int .i64 0, .int .i64 0, .int .i64 0, .int .i64 0, .string (⟨#[]⟩ : ByteArray)]) ?_ 3 _ rfl; (with_reducible repeat (first | refine blk_drewN ?_ _ | refine blk_drew ?_ | refine blk_alloc ?_ _)); refine blk_put (cs := #[.int .i64 t342, .int .i64 t343, .int .i64 0, .int .i64 0, .int .i64 0, .int .i64 0, .int .i64 0, .string (⟨#[]⟩ : ByteArray)]) ?_ 2 _ rfl; (with_reducible repeat (first | refine blk_drewN ?_ _ | refine blk_drew ?_ | refine blk_alloc ?_ _)); refine blk_put (cs := #[.int .i64 t342, .int .i64 0, .int .i64 0, .int .i64 0, .int .i64 0, .int .i64 0, .int .i64 0, .string (⟨#[]⟩ : ByteArray)]) ?_ 1 _ rfl; (with_reducible repeat (first | refine blk_drewN ?_ _ | refine blk_drew ?_ | refine blk_alloc ?_ _)); refine blk_put (cs := #[.int .i64 0, .int .i64 0, .int .i64 0, .int .i64 0, .int .i64 0, .int .i64 0, .int .i64 0, .string (⟨#[]⟩ : ByteArray)]) ?_ 0 _ rfl; (with_reducible repeat (first | refine blk_drewN ?_ _ | refine blk_drew ?_ | refine blk_alloc ?_ _)); exact BK352.out))⟩; have n7_ : Aside0 (Below w.heap.size w w72) := ⟨(by rw [hw]; exact (by repeat (first | (with_reducible first | exact HB.out | apply below_alloc | apply pw_below_drewN | apply below_drew1 | refine below_set ?_ GE317.out | refine below_set ?_ GE325.out | refine below_set ?_ GE351.out | refine below_set ?_ GE352.out) | exact HB.out)))⟩; clear hw; clear HO_5; clear HO_318000; clear HO341; clear BK317; clear BK325; clear BK351; clear BK352; clear HB; have HO_5 := n0_; have HO_318000 := n1_; have HO341 := n2_; have BK317 := n3_; have BK325 := n4_; have BK351 := n5_; have BK352 := n6_; have HB := n7_; clear n0_ n1_ n2_ n3_ n4_ n5_ n6_ n7_; have hcz73_0 : w72.cell? ⟨gb325, 0, none⟩ = some (.int .i64 ((rd_T39 l1 x6_1).f0)) := (blk_cell BK325.out 0).trans rfl; have hcz73_1 : w72.cell? ⟨gb325, 1, none⟩ = some (.int .i64 ((rd_T39 l1 x6_1).f1)) := (blk_cell BK325.out 1).trans rfl; have hcz73_2 : w72.cell? ⟨gb325, 2, none⟩ = some (.slice A324_2 ((rd_T39 l1 x6_1).f2).length c324_2) := (blk_cell BK325.out 2).trans rfl; have hfz73_0 := blk_frozen BK325.out 0; have hfz73_1 := blk_frozen BK325.out 1; have hfz73_2 := blk_frozen BK325.out 2; obtain ⟨Ao74, co74, eo74⟩ := Kd.V_slice HO_5.out; subst eo74) | ((with_reducible refine gate_callee (f := 18) rfl ?_); refine goesL_ (some 103) rfl rfl Try.func18 (by kernel_rfl) rfl #[.slice Ao74 x5_1.length co74, .int .i64 ((rd_T39 l1 x6_1).f1)] rfl (by (try simp only [List.map_toArray, List.map_cons, List.map_nil]); first | done | rfl | (simp only [List.length_drop, List.length_take]; rfl)) ?_; (with_reducible refine (haywainref22_Give.calls kj12 (fun k_ => ((P0_0_ k_ ∨ w.heap.size ≤ k_) ∧ (k_ ≠ gb317 ∧ (k_ ≠ gb325 ∧ (k_ ≠ gb351 ∧ k_ ≠ gb352))))) _ _ x5_1 ((rd_T39 l1 x6_1).f1) t353 t356 t357 t358 t359 t360 t361 t362 t363 t364 _ ?side1 A51.out).mono ?_); (case side1 => exact HO_5.out); rintro e w75 ⟨v354, rfl, ho0, hb⟩; refine ⟨_, rfl, ?_⟩; have n0_ := Aside0.mk (Kd.V_below (by (with_reducible repeat (first | apply Kd.V_alloc | apply Kd.V_drewN | apply Kd.V_drew)); exact HO_5.out) hb); have n1_ := Aside0.mk (Kd.V_below (by (with_reducible repeat (first | apply Kd.V_alloc | apply Kd.V_drewN | apply Kd.V_drew)); exact HO_318000.out) hb); have n2_ := Aside0.mk (Kd.V_below (by (with_reducible repeat (first | apply Kd.V_alloc | apply Kd.V_drewN | apply Kd.V_drew)); exact HO341.out) hb); have n3_ := Aside0.mk (Kd.V_lower (Kd.V_mono (ok' := fun k_ => (P0_0_ k_ ∨ w.heap.size ≤ k_) ∧ k_ ≠ gb317 ∧ k_ ≠ gb325 ∧ k_ ≠ gb351 ∧ k_ ≠ gb352) ho0 (fun k_ hk_ => ⟨Or.elim hk_ (fun hs_ => hs_.1) (fun hn_ => (.inr (Nat.le_trans (below_size (by repeat (first | (with_reducible first | exact HB.out | apply below_alloc | apply pw_below_drewN | apply below_drew1 | refine below_set ?_ GE317.out | refine below_set ?_ GE325.out | refine below_set ?_ GE351.out | refine below_set ?_ GE352.out) | exact HB.out))) hn_))), Or.elim hk_ (fun hs_ => hs_.2.1) (fun hn_ => (Kd.freshB (g := gb317) (o := .cells #[.slice Ao59 x318000_1.length co59] 26 (0, 0)) (by (with_reducible repeat (first | refine blk_drewN ?_ _ | refine blk_drew ?_ | refine blk_alloc ?_ _)); exact BK317.out) k_ hn_)), Or.elim hk_ (fun hs_ => hs_.2.2.1) (fun hn_ => (Kd.freshB (g := gb325) (o := .cells #[.int .i64 ((rd_T39 l1 x6_1).f0), .int .i64 ((rd_T39 l1 x6_1).f1), .slice A324_2 ((rd_T39 l1 x6_1).f2).length c324_2] 39 (0, 0)) (by (with_reducible repeat (first | refine blk_drewN ?_ _ | refine blk_drew ?_ | refine blk_alloc ?_ _)); exact BK325.out) k_ hn_)), Or.elim hk_ (fun hs_ => hs_.2.2.2.1) (fun hn_ => (Kd.freshB (g := gb351) (o := .cells #[.slice Ao63 t339.length co63] 26 (0, 0)) (by (with_reducible repeat (first | refine blk_drewN ?_ _ | refine blk_drew ?_ | refine blk_alloc ?_ _)); exact BK351.out) k_ hn_)), Or.elim hk_ (fun hs_ => hs_.2.2.2.2) (fun hn_ => (Kd.freshB (g := gb352) (o := .cells #[.int .i64 t342, .int .i64 t343, .int .i64 t344, .int .i64 t345, .int .i64 t346, .int .i64 t347, .int .i64 t348, .string t349] 23 (0, 0)) (by (with_reducible repeat (first | refine blk_drewN ?_ _ | refine blk_drew ?_ | refine blk_alloc ?_ _)); exact BK352.out) k_ hn_))⟩)) (below_size (by repeat (first | (with_reducible first | exact HB.out | apply below_alloc | apply pw_below_drewN | apply below_drew1 | refine below_set ?_ GE317.out | refine below_set ?_ GE325.out | refine below_set ?_ GE351.out | refine below_set ?_ GE352.out) | exact HB.out)))); have n4_ := Aside0.mk (blk_below (g := gb317) (o := .cells #[.slice Ao59 x318000_1.length co59] 26 (0, 0)) (by (with_reducible repeat (first | refine blk_drewN ?_ _ | refine blk_drew ?_ | refine blk_alloc ?_ _)); exact BK317.out) hb); have n5_ := Aside0.mk (blk_below (g := gb325) (o := .cells #[.int .i64 ((rd_T39 l1 x6_1).f0), .int .i64 ((rd_T39 l1 x6_1).f1), .slice A324_2 ((rd_T39 l1 x6_1).f2).length c324_2] 39 (0, 0)) (by (with_reducible repeat (first | refine blk_drewN ?_ _ | refine blk_drew ?_ | refine blk_alloc ?_ _)); exact BK325.out) hb); have n6_ := Aside0.mk (blk_below (g := gb351) (o := .cells #[.slice Ao63 t339.length co63] 26 (0, 0)) (by (with_reducible repeat (first | refine blk_drewN ?_ _ | refine blk_drew ?_ | refine blk_alloc ?_ _)); exact BK351.out) hb); have n7_ := Aside0.mk (blk_below (g := gb352) (o := .cells #[.int .i64 t342, .int .i64 t343, .int .i64 t344, .int .i64 t345, .int .i64 t346, .int .i64 t347, .int .i64 t348, .string t349] 23 (0, 0)) (by (with_reducible repeat (first | refine blk_drewN ?_ _ | refine blk_drew ?_ | refine blk_alloc ?_ _)); exact BK352.out) hb); have n8_ := Aside0.mk (below_step (by repeat (first | (with_reducible first | exact HB.out | apply below_alloc | apply pw_below_drewN | apply below_drew1 | refine below_set ?_ GE317.out | refine below_set ?_ GE325.out | refine below_set ?_ GE351.out | refine below_set ?_ GE352.out) | exact HB.out)) hb); clear HO_5; clear HO_318000; clear HO341; clear BK317; clear BK325; clear BK351; clear BK352; clear HB; have HO_5 := n0_; have HO_318000 := n1_; have HO341 := n2_; have HO355 := n3_; have BK317 := n4_; have BK325 := n5_; have BK351 := n6_; have BK352 := n7_; have HB := n8_; clear n0_ n1_ n2_ n3_ n4_ n5_ n6_ n7_ n8_; (try clear hb); (try clear hb2); (try clear hk); (try clear hi); (try clear ho0)) | ((with_reducible refine gate_dst (N := 16) rfl ?_); (try (refine gate_guard (by rfl) ?_; dsimp only)); refine box_event ?hg (N := 16) ?hd (cs := #[.int .i64 0, .int .i64 0, .int .i64 0, .int .i64 0, .int .i64 0, .int .i64 0, .int .i64 0, .string (⟨#[]⟩ : ByteArray)]) (t := 31) ?hr ?_; (case hd => rfl); (case hg => rfl); (case hr => first | (go_simp; done) | (go_simp; rfl)); intro gb365 hg w76 hbox hb; have n0_ := Aside0.mk (Kd.V_below (Kd.V_elderB (by (with_reducible repeat (first | apply Kd.V_alloc | apply Kd.V_drewN | apply Kd.V_drew)); exact HO_5.out) gb365 (Nat.le_of_eq hg.symm)) hb); have n1_ := Aside0.mk (Kd.V_below (Kd.V_elderB (by (with_reducible repeat (first | apply Kd.V_alloc | apply Kd.V_drewN | apply Kd.V_drew)); exact HO_318000.out) gb365 (Nat.le_of_eq hg.symm)) hb); have n2_ := Aside0.mk (Kd.V_below (Kd.V_elderB (by (with_reducible repeat (first | apply Kd.V_alloc | apply Kd.V_drewN | apply Kd.V_drew)); exact HO341.out) gb365 (Nat.le_of_eq hg.symm)) hb); have n3_ := Aside0.mk (Kd.V_below (Kd.V_elderB (by (with_reducible repeat (first | apply Kd.V_alloc | apply Kd.V_drewN | apply Kd.V_drew)); exact HO355.out) gb365 (Nat.le_of_eq hg.symm)) hb); have n4_ := Aside0.mk (blk_below (g := gb317) (o := .cells #[.slice Ao59 x318000_1.length co59] 26 (0, 0)) (by (with_reducible repeat (first | refine blk_drewN ?_ _ | refine blk_drew ?_ | refine blk_alloc ?_ _)); exact BK317.out) hb); have n5_ := Aside0.mk (blk_below (g := gb325) (o := .cells #[.int .i64 ((rd_T39 l1 x6_1).f0), .int .i64 ((rd_T39 l1 x6_1).f1), .slice A324_2 ((rd_T39 l1 x6_1).f2).length c324_2] 39 (0, 0)) (by (with_reducible repeat (first | refine blk_drewN ?_ _ | refine blk_drew ?_ | refine blk_alloc ?_ _)); exact BK325.out) hb); have n6_ := Aside0.mk (blk_below (g := gb351) (o := .cells #[.slice Ao63 t339.length co63] 26 (0, 0)) (by (with_reducible repeat (first | refine blk_drewN ?_ _ | refine blk_drew ?_ | refine blk_alloc ?_ _)); exact BK351.out) hb); have n7_ := Aside0.mk (blk_below (g := gb352) (o := .cells #[.int .i64 t342, .int .i64 t343, .int .i64 t344, .int .i64 t345, .int .i64 t346, .int .i64 t347, .int .i64 t348, .string t349] 23 (0, 0)) (by (with_reducible repeat (first | refine blk_drewN ?_ _ | refine blk_drew ?_ | refine blk_alloc ?_ _)); exact BK352.out) hb); have n8_ := Aside0.mk (below_step (by repeat (first | (with_reducible first | exact HB.out | apply below_alloc | apply pw_below_drewN | apply below_drew1 | refine below_set ?_ GE317.out | refine below_set ?_ GE325.out | refine below_set ?_ GE351.out | refine below_set ?_ GE352.out) | exact HB.out)) hb); have n9_ := Aside0.mk (hbox); have n10_ := Aside0.mk ((by rw [hg]; exact (below_size (by repeat (first | (with_reducible first | exact HB.out | apply below_alloc | apply pw_below_drewN | apply below_drew1 | refine below_set ?_ GE317.out | refine below_set ?_ GE325.out | refine below_set ?_ GE351.out | refine below_set ?_ GE352.out) | exact HB.out))) : w.heap.size ≤ gb365)); have n11_ := Aside0.mk ((by rw [hg]; exact (below_size (by repeat (first | (with_reducible first | exact HB.out | apply below_alloc | apply pw_below_drewN | apply below_drew1 | refine below_set ?_ GE317.out | refine below_set ?_ GE325.out | refine below_set ?_ GE351.out | refine below_set ?_ GE352.out) | exact HB.out))) : w.heap.size ≤ gb365)); have n12_ := Aside0.mk ((by rw [hg]; exact Nat.ne_of_lt (blk_lt (g := gb317) (o := .cells #[.slice Ao59 x318000_1.length co59] 26 (0, 0)) (by (with_reducible repeat (first | refine blk_drewN ?_ _ | refine blk_drew ?_ | refine blk_alloc ?_ _)); exact BK317.out)) : gb317 ≠ gb365)); have n13_ := Aside0.mk ((by rw [hg]; exact Nat.ne_of_gt (blk_lt (g := gb317) (o := .cells #[.slice Ao59 x318000_1.length co59] 26 (0, 0)) (by (with_reducible repeat (first | refine blk_drewN ?_ _ | refine blk_drew ?_ | refine blk_alloc ?_ _)); exact BK317.out)) : gb365 ≠ gb317)); have n14_ := Aside0.mk ((by rw [hg]; exact Nat.ne_of_lt (blk_lt (g := gb325) (o := .cells #[.int .i64 ((rd_T39 l1 x6_1).f0), .int .i64 ((rd_T39 l1 x6_1).f1), .slice A324_2 ((rd_T39 l1 x6_1).f2).length c324_2] 39 (0, 0)) (by (with_reducible repeat (first | refine blk_drewN ?_ _ | refine blk_drew ?_ | refine blk_alloc ?_ _)); exact BK325.out)) : gb325 ≠ gb365)); have n15_ := Aside0.mk ((by rw [hg]; exact Nat.ne_of_gt (blk_lt (g := gb325) (o := .cells #[.int .i64 ((rd_T39 l1 x6_1).f0), .int .i64 ((rd_T39 l1 x6_1).f1), .slice A324_2 ((rd_T39 l1 x6_1).f2).length c324_2] 39 (0, 0)) (by (with_reducible repeat (first | refine blk_drewN ?_ _ | refine blk_drew ?_ | refine blk_alloc ?_ _)); exact BK325.out)) : gb365 ≠ gb325)); have n16_ := Aside0.mk ((by rw [hg]; exact Nat.ne_of_lt (blk_lt (g := gb351) (o := .cells #[.slice Ao63 t339.length co63] 26 (0, 0)) (by (with_reducible repeat (first | refine blk_drewN ?_ _ | refine blk_drew ?_ | refine blk_alloc ?_ _)); exact BK351.out)) : gb351 ≠ gb365)); have n17_ := Aside0.mk ((by rw [hg]; exact Nat.ne_of_gt (blk_lt (g := gb351) (o := .cells #[.slice Ao63 t339.length co63] 26 (0, 0)) (by (with_reducible repeat (first | refine blk_drewN ?_ _ | refine blk_drew ?_ | refine blk_alloc ?_ _)); exact BK351.out)) : gb365 ≠ gb351)); have n18_ := Aside0.mk ((by rw [hg]; exact Nat.ne_of_lt (blk_lt (g := gb352) (o := .cells #[.int .i64 t342, .int .i64 t343, .int .i64 t344, .int .i64 t345, .int .i64 t346, .int .i64 t347, .int .i64 t348, .string t349] 23 (0, 0)) (by (with_reducible repeat (first | refine blk_drewN ?_ _ | refine blk_drew ?_ | refine blk_alloc ?_ _)); exact BK352.out)) : gb352 ≠ gb365)); have n19_ := Aside0.mk ((by rw [hg]; exact Nat.ne_of_gt (blk_lt (g := gb352) (o := .cells #[.int .i64 t342, .int .i64 t343, .int .i64 t344, .int .i64 t345, .int .i64 t346, .int .i64 t347, .int .i64 t348, .string t349] 23 (0, 0)) (by (with_reducible repeat (first | refine blk_drewN ?_ _ | refine blk_drew ?_ | refine blk_alloc ?_ _)); exact BK352.out)) : gb365 ≠ gb352)); clear HO_5; clear HO_318000; clear HO341; clear HO355; clear BK317; clear BK325; clear BK351; clear BK352; clear HB; have HO_5 := n0_; have HO_318000 := n1_; have HO341 := n2_; have HO355 := n3_; have BK317 := n4_; have BK325 := n5_; have BK351 := n6_; have BK352 := n7_; have HB := n8_; have BK365 := n9_; have GW365 := n10_; have GE365 := n11_; have NB317_365 := n12_; have NB365_317 := n13_; have NB325_365 := n14_; have NB365_325 := n15_; have NB351_365 := n16_; have NB365_351 := n17_; have NB352_365 := n18_; have NB365_352 := n19_; clear n0_ n1_ n2_ n3_ n4_ n5_ n6_ n7_ n8_ n9_ n10_ n11_ n12_ n13_ n14_ n15_ n16_ n17_ n18_ n19_; clear hb hbox hg; have hnb77 := NB365_317.out; have hnc77 := NB317_365.out; have hnb78 := NB365_325.out; have hnc78 := NB325_365.out; have hnb79 := NB365_351.out; have hnc79 := NB351_365.out; have hnb80 := NB365_352.out; have hnc80 := NB352_365.out; have hcz81_0 : w76.cell? ⟨gb365, 0, none⟩ = some (.int .i64 0) := (blk_cell BK365.out 0).trans rfl; have hcz81_1 : w76.cell? ⟨gb365, 1, none⟩ = some (.int .i64 0) := (blk_cell BK365.out 1).trans rfl; have hcz81_2 : w76.cell? ⟨gb365, 2, none⟩ = some (.int .i64 0) := (blk_cell BK365.out 2).trans rfl; have hcz81_3 : w76.cell? ⟨gb365, 3, none⟩ = some (.int .i64 0) := (blk_cell BK365.out 3).trans rfl; have hcz81_4 : w76.cell? ⟨gb365, 4, none⟩ = some (.int .i64 0) := (blk_cell BK365.out 4).trans rfl; have hcz81_5 : w76.cell? ⟨gb365, 5, none⟩ = some (.int .i64 0) := (blk_cell BK365.out 5).trans rfl; have hcz81_6 : w76.cell? ⟨gb365, 6, none⟩ = some (.int .i64 0) := (blk_cell BK365.out 6).trans rfl; have hcz81_7 : w76.cell? ⟨gb365, 7, none⟩ = some (.string (⟨#[]⟩ : ByteArray)) := (blk_cell BK365.out 7).trans rfl; have hfz81_0 := blk_frozen BK365.out 0; have hfz81_1 := blk_frozen BK365.out 1; have hfz81_2 := blk_frozen BK365.out 2; have hfz81_3 := blk_frozen BK365.out 3; have hfz81_4 := blk_frozen BK365.out 4; have hfz81_5 := blk_frozen BK365.out 5; have hfz81_6 := blk_frozen BK365.out 6; have hfz81_7 := blk_frozen BK365.out 7))
               have n0_ : Aside0 (Kd.V k31 31 ((((((((w76.setCell ⟨gb365, 0, none⟩ (.int .i64 t356)).setCell ⟨gb365, 1, none⟩ (.int .i64 t357)).setCell ⟨gb365, 2, none⟩ (.int .i64 t358)).setCell ⟨gb365, 3, none⟩ (.int .i64 t359)).setCell ⟨gb365, 4, none⟩ (.int .i64 t360)).setCell ⟨gb365, 5, none⟩ (.int .i64 t361)).setCell ⟨gb365, 6, none⟩ (.int .i64 t362)).setCell ⟨gb365, 7, none⟩ (.string t363)) w.heap.size (fun k_ => (P0_0_ k_ ∨ w.heap.size ≤ k_) ∧ k_ ≠ gb317 ∧ k_ ≠ gb325 ∧ k_ ≠ gb351 ∧ k_ ≠ gb352 ∧ k_ ≠ gb365) (.slice Ao74 x5_1.length co74) x5_1) := ⟨by (with_reducible repeat (first | apply Kd.V_alloc | apply Kd.V_drewN | apply Kd.V_drew)); exact Kd.V_mono (Kd.V_far (p := ⟨gb365, 7, none⟩) (Kd.V_far (p := ⟨gb365, 6, none⟩) (Kd.V_far (p := ⟨gb365, 5, none⟩) (Kd.V_far (p := ⟨gb365, 4, none⟩) (Kd.V_far (p := ⟨gb365, 3, none⟩) (Kd.V_far (p := ⟨gb365, 2, none⟩) (Kd.V_far (p := ⟨gb365, 1, none⟩) (Kd.V_far (p := ⟨gb365, 0, none⟩) (Kd.V_mono HO_5.out (fun k_ hk => (⟨hk, hk.2⟩ : _ ∧ k_ ≠ gb365))) (fun _ hk => hk.2) (.int .i64 t356)) (fun _ hk => hk.2) (.int .i64 t357)) (fun _ hk => hk.2) (.int .i64 t358)) (fun _ hk => hk.2) (.int .i64 t359)) (fun _ hk => hk.2) (.int .i64 t360)) (fun _ hk => hk.2) (.int .i64 t361)) (fun _ hk => hk.2) (.int .i64 t362)) (fun _ hk => hk.2) (.string t363)) (fun _ hk => ⟨hk.1.1.1, ⟨hk.1.1.2.1, ⟨hk.1.1.2.2.1, ⟨hk.1.1.2.2.2.1, ⟨hk.1.1.2.2.2.2, hk.1.2⟩⟩⟩⟩⟩)⟩
               have n1_ : Aside0 (Kd.V k23 23 ((((((((w76.setCell ⟨gb365, 0, none⟩ (.int .i64 t356)).setCell ⟨gb365, 1, none⟩ (.int .i64 t357)).setCell ⟨gb365, 2, none⟩ (.int .i64 t358)).setCell ⟨gb365, 3, none⟩ (.int .i64 t359)).setCell ⟨gb365, 4, none⟩ (.int .i64 t360)).setCell ⟨gb365, 5, none⟩ (.int .i64 t361)).setCell ⟨gb365, 6, none⟩ (.int .i64 t362)).setCell ⟨gb365, 7, none⟩ (.string t363)) w.heap.size (fun k_ => (P0_0_ k_ ∨ w.heap.size ≤ k_) ∧ k_ ≠ gb317 ∧ k_ ≠ gb325 ∧ k_ ≠ gb351 ∧ k_ ≠ gb352 ∧ k_ ≠ gb365) (.slice Ao59 x318000_1.length co59) x318000_1) := ⟨by (with_reducible repeat (first | apply Kd.V_alloc | apply Kd.V_drewN | apply Kd.V_drew)); exact Kd.V_mono (Kd.V_far (p := ⟨gb365, 7, none⟩) (Kd.V_far (p := ⟨gb365, 6, none⟩) (Kd.V_far (p := ⟨gb365, 5, none⟩) (Kd.V_far (p := ⟨gb365, 4, none⟩) (Kd.V_far (p := ⟨gb365, 3, none⟩) (Kd.V_far (p := ⟨gb365, 2, none⟩) (Kd.V_far (p := ⟨gb365, 1, none⟩) (Kd.V_far (p := ⟨gb365, 0, none⟩) (Kd.V_mono HO_318000.out (fun k_ hk => (⟨hk, hk.2⟩ : _ ∧ k_ ≠ gb365))) (fun _ hk => hk.2) (.int .i64 t356)) (fun _ hk => hk.2) (.int .i64 t357)) (fun _ hk => hk.2) (.int .i64 t358)) (fun _ hk => hk.2) (.int .i64 t359)) (fun _ hk => hk.2) (.int .i64 t360)) (fun _ hk => hk.2) (.int .i64 t361)) (fun _ hk => hk.2) (.int .i64 t362)) (fun _ hk => hk.2) (.string t363)) (fun _ hk => ⟨hk.1.1.1, ⟨hk.1.1.2.1, ⟨hk.1.1.2.2.1, ⟨hk.1.1.2.2.2.1, ⟨hk.1.1.2.2.2.2, hk.1.2⟩⟩⟩⟩⟩)⟩
               have n2_ : Aside0 (Kd.V k23 23 ((((((((w76.setCell ⟨gb365, 0, none⟩ (.int .i64 t356)).setCell ⟨gb365, 1, none⟩ (.int .i64 t357)).setCell ⟨gb365, 2, none⟩ (.int .i64 t358)).setCell ⟨gb365, 3, none⟩ (.int .i64 t359)).setCell ⟨gb365, 4, none⟩ (.int .i64 t360)).setCell ⟨gb365, 5, none⟩ (.int .i64 t361)).setCell ⟨gb365, 6, none⟩ (.int .i64 t362)).setCell ⟨gb365, 7, none⟩ (.string t363)) w.heap.size (fun k_ => (P0_0_ k_ ∨ w.heap.size ≤ k_) ∧ k_ ≠ gb317 ∧ k_ ≠ gb325 ∧ k_ ≠ gb351 ∧ k_ ≠ gb352 ∧ k_ ≠ gb365) (.slice Ao63 t339.length co63) t339) := ⟨by (with_reducible repeat (first | apply Kd.V_alloc | apply Kd.V_drewN | apply Kd.V_drew)); exact Kd.V_mono (Kd.V_far (p := ⟨gb365, 7, none⟩) (Kd.V_far (p := ⟨gb365, 6, none⟩) (Kd.V_far (p := ⟨gb365, 5, none⟩) (Kd.V_far (p := ⟨gb365, 4, none⟩) (Kd.V_far (p := ⟨gb365, 3, none⟩) (Kd.V_far (p := ⟨gb365, 2, none⟩) (Kd.V_far (p := ⟨gb365, 1, none⟩) (Kd.V_far (p := ⟨gb365, 0, none⟩) (Kd.V_mono HO341.out (fun k_ hk => (⟨hk, hk.2⟩ : _ ∧ k_ ≠ gb365))) (fun _ hk => hk.2) (.int .i64 t356)) (fun _ hk => hk.2) (.int .i64 t357)) (fun _ hk => hk.2) (.int .i64 t358)) (fun _ hk => hk.2) (.int .i64 t359)) (fun _ hk => hk.2) (.int .i64 t360)) (fun _ hk => hk.2) (.int .i64 t361)) (fun _ hk => hk.2) (.int .i64 t362)) (fun _ hk => hk.2) (.string t363)) (fun _ hk => ⟨hk.1.1.1, ⟨hk.1.1.2.1, ⟨hk.1.1.2.2.1, ⟨hk.1.1.2.2.2.1, ⟨hk.1.1.2.2.2.2, hk.1.2⟩⟩⟩⟩⟩)⟩
               have n3_ : Aside0 (Kd.V k31 31 ((((((((w76.setCell ⟨gb365, 0, none⟩ (.int .i64 t356)).setCell ⟨gb365, 1, none⟩ (.int .i64 t357)).setCell ⟨gb365, 2, none⟩ (.int .i64 t358)).setCell ⟨gb365, 3, none⟩ (.int .i64 t359)).setCell ⟨gb365, 4, none⟩ (.int .i64 t360)).setCell ⟨gb365, 5, none⟩ (.int .i64 t361)).setCell ⟨gb365, 6, none⟩ (.int .i64 t362)).setCell ⟨gb365, 7, none⟩ (.string t363)) w.heap.size (fun k_ => (P0_0_ k_ ∨ w.heap.size ≤ k_) ∧ k_ ≠ gb317 ∧ k_ ≠ gb325 ∧ k_ ≠ gb351 ∧ k_ ≠ gb352 ∧ k_ ≠ gb365) v354 t353) := ⟨by (with_reducible repeat (first | apply Kd.V_alloc | apply Kd.V_drewN | apply Kd.V_drew)); exact Kd.V_mono (Kd.V_far (p := ⟨gb365, 7, none⟩) (Kd.V_far (p := ⟨gb365, 6, none⟩) (Kd.V_far (p := ⟨gb365, 5, none⟩) (Kd.V_far (p := ⟨gb365, 4, none⟩) (Kd.V_far (p := ⟨gb365, 3, none⟩) (Kd.V_far (p := ⟨gb365, 2, none⟩) (Kd.V_far (p := ⟨gb365, 1, none⟩) (Kd.V_far (p := ⟨gb365, 0, none⟩) (Kd.V_mono HO355.out (fun k_ hk => (⟨hk, hk.2⟩ : _ ∧ k_ ≠ gb365))) (fun _ hk => hk.2) (.int .i64 t356)) (fun _ hk => hk.2) (.int .i64 t357)) (fun _ hk => hk.2) (.int .i64 t358)) (fun _ hk => hk.2) (.int .i64 t359)) (fun _ hk => hk.2) (.int .i64 t360)) (fun _ hk => hk.2) (.int .i64 t361)) (fun _ hk => hk.2) (.int .i64 t362)) (fun _ hk => hk.2) (.string t363)) (fun _ hk => ⟨hk.1.1.1, ⟨hk.1.1.2.1, ⟨hk.1.1.2.2.1, ⟨hk.1.1.2.2.2.1, ⟨hk.1.1.2.2.2.2, hk.1.2⟩⟩⟩⟩⟩)⟩
               have n4_ : Aside0 (((((((((w76.setCell ⟨gb365, 0, none⟩ (.int .i64 t356)).setCell ⟨gb365, 1, none⟩ (.int .i64 t357)).setCell ⟨gb365, 2, none⟩ (.int .i64 t358)).setCell ⟨gb365, 3, none⟩ (.int .i64 t359)).setCell ⟨gb365, 4, none⟩ (.int .i64 t360)).setCell ⟨gb365, 5, none⟩ (.int .i64 t361)).setCell ⟨gb365, 6, none⟩ (.int .i64 t362)).setCell ⟨gb365, 7, none⟩ (.string t363)).heap[gb317]? = some (.cells #[.slice Ao59 x318000_1.length co59] 26 (0, 0))) := ⟨by (with_reducible repeat (first | refine blk_drewN ?_ _ | refine blk_drew ?_ | refine blk_alloc ?_ _)); refine blk_far ?_ NB317_365.out _; (with_reducible repeat (first | refine blk_drewN ?_ _ | refine blk_drew ?_ | refine blk_alloc ?_ _)); refine blk_far ?_ NB317_365.out _; (with_reducible repeat (first | refine blk_drewN ?_ _ | refine blk_drew ?_ | refine blk_alloc ?_ _)); refine blk_far ?_ NB317_365.out _; (with_reducible repeat (first | refine blk_drewN ?_ _ | refine blk_drew ?_ | refine blk_alloc ?_ _)); refine blk_far ?_ NB317_365.out _; (with_reducible repeat (first | refine blk_drewN ?_ _ | refine blk_drew ?_ | refine blk_alloc ?_ _)); refine blk_far ?_ NB317_365.out _; (with_reducible repeat (first | refine blk_drewN ?_ _ | refine blk_drew ?_ | refine blk_alloc ?_ _)); refine blk_far ?_ NB317_365.out _; (with_reducible repeat (first | refine blk_drewN ?_ _ | refine blk_drew ?_ | refine blk_alloc ?_ _)); refine blk_far ?_ NB317_365.out _; (with_reducible repeat (first | refine blk_drewN ?_ _ | refine blk_drew ?_ | refine blk_alloc ?_ _)); refine blk_far ?_ NB317_365.out _; (with_reducible repeat (first | refine blk_drewN ?_ _ | refine blk_drew ?_ | refine blk_alloc ?_ _)); exact BK317.out⟩
               have n5_ : Aside0 (((((((((w76.setCell ⟨gb365, 0, none⟩ (.int .i64 t356)).setCell ⟨gb365, 1, none⟩ (.int .i64 t357)).setCell ⟨gb365, 2, none⟩ (.int .i64 t358)).setCell ⟨gb365, 3, none⟩ (.int .i64 t359)).setCell ⟨gb365, 4, none⟩ (.int .i64 t360)).setCell ⟨gb365, 5, none⟩ (.int .i64 t361)).setCell ⟨gb365, 6, none⟩ (.int .i64 t362)).setCell ⟨gb365, 7, none⟩ (.string t363)).heap[gb325]? = some (.cells #[.int .i64 ((rd_T39 l1 x6_1).f0), .int .i64 ((rd_T39 l1 x6_1).f1), .slice A324_2 ((rd_T39 l1 x6_1).f2).length c324_2] 39 (0, 0))) := ⟨by (with_reducible repeat (first | refine blk_drewN ?_ _ | refine blk_drew ?_ | refine blk_alloc ?_ _)); refine blk_far ?_ NB325_365.out _; (with_reducible repeat (first | refine blk_drewN ?_ _ | refine blk_drew ?_ | refine blk_alloc ?_ _)); refine blk_far ?_ NB325_365.out _; (with_reducible repeat (first | refine blk_drewN ?_ _ | refine blk_drew ?_ | refine blk_alloc ?_ _)); refine blk_far ?_ NB325_365.out _; (with_reducible repeat (first | refine blk_drewN ?_ _ | refine blk_drew ?_ | refine blk_alloc ?_ _)); refine blk_far ?_ NB325_365.out _; (with_reducible repeat (first | refine blk_drewN ?_ _ | refine blk_drew ?_ | refine blk_alloc ?_ _)); refine blk_far ?_ NB325_365.out _; (with_reducible repeat (first | refine blk_drewN ?_ _ | refine blk_drew ?_ | refine blk_alloc ?_ _)); refine blk_far ?_ NB325_365.out _; (with_reducible repeat (first | refine blk_drewN ?_ _ | refine blk_drew ?_ | refine blk_alloc ?_ _)); refine blk_far ?_ NB325_365.out _; (with_reducible repeat (first | refine blk_drewN ?_ _ | refine blk_drew ?_ | refine blk_alloc ?_ _)); refine blk_far ?_ NB325_365.out _; (with_reducible repeat (first | refine blk_drewN ?_ _ | refine blk_drew ?_ | refine blk_alloc ?_ _)); exact BK325.out⟩
               have n6_ : Aside0 (((((((((w76.setCell ⟨gb365, 0, none⟩ (.int .i64 t356)).setCell ⟨gb365, 1, none⟩ (.int .i64 t357)).setCell ⟨gb365, 2, none⟩ (.int .i64 t358)).setCell ⟨gb365, 3, none⟩ (.int .i64 t359)).setCell ⟨gb365, 4, none⟩ (.int .i64 t360)).setCell ⟨gb365, 5, none⟩ (.int .i64 t361)).setCell ⟨gb365, 6, none⟩ (.int .i64 t362)).setCell ⟨gb365, 7, none⟩ (.string t363)).heap[gb351]? = some (.cells #[.slice Ao63 t339.length co63] 26 (0, 0))) := ⟨by (with_reducible repeat (first | refine blk_drewN ?_ _ | refine blk_drew ?_ | refine blk_alloc ?_ _)); refine blk_far ?_ NB351_365.out _; (with_reducible repeat (first | refine blk_drewN ?_ _ | refine blk_drew ?_ | refine blk_alloc ?_ _)); refine blk_far ?_ NB351_365.out _; (with_reducible repeat (first | refine blk_drewN ?_ _ | refine blk_drew ?_ | refine blk_alloc ?_ _)); refine blk_far ?_ NB351_365.out _; (with_reducible repeat (first | refine blk_drewN ?_ _ | refine blk_drew ?_ | refine blk_alloc ?_ _)); refine blk_far ?_ NB351_365.out _; (with_reducible repeat (first | refine blk_drewN ?_ _ | refine blk_drew ?_ | refine blk_alloc ?_ _)); refine blk_far ?_ NB351_365.out _; (with_reducible repeat (first | refine blk_drewN ?_ _ | refine blk_drew ?_ | refine blk_alloc ?_ _)); refine blk_far ?_ NB351_365.out _; (with_reducible repeat (first | refine blk_drewN ?_ _ | refine blk_drew ?_ | refine blk_alloc ?_ _)); refine blk_far ?_ NB351_365.out _; (with_reducible repeat (first | refine blk_drewN ?_ _ | refine blk_drew ?_ | refine blk_alloc ?_ _)); refine blk_far ?_ NB351_365.out _; (with_reducible repeat (first | refine blk_drewN ?_ _ | refine blk_drew ?_ | refine blk_alloc ?_ _)); exact BK351.out⟩
               have n7_ : Aside0 (((((((((w76.setCell ⟨gb365, 0, none⟩ (.int .i64 t356)).setCell ⟨gb365, 1, none⟩ (.int .i64 t357)).setCell ⟨gb365, 2, none⟩ (.int .i64 t358)).setCell ⟨gb365, 3, none⟩ (.int .i64 t359)).setCell ⟨gb365, 4, none⟩ (.int .i64 t360)).setCell ⟨gb365, 5, none⟩ (.int .i64 t361)).setCell ⟨gb365, 6, none⟩ (.int .i64 t362)).setCell ⟨gb365, 7, none⟩ (.string t363)).heap[gb352]? = some (.cells #[.int .i64 t342, .int .i64 t343, .int .i64 t344, .int .i64 t345, .int .i64 t346, .int .i64 t347, .int .i64 t348, .string t349] 23 (0, 0))) := ⟨by (with_reducible repeat (first | refine blk_drewN ?_ _ | refine blk_drew ?_ | refine blk_alloc ?_ _)); refine blk_far ?_ NB352_365.out _; (with_reducible repeat (first | refine blk_drewN ?_ _ | refine blk_drew ?_ | refine blk_alloc ?_ _)); refine blk_far ?_ NB352_365.out _; (with_reducible repeat (first | refine blk_drewN ?_ _ | refine blk_drew ?_ | refine blk_alloc ?_ _)); refine blk_far ?_ NB352_365.out _; (with_reducible repeat (first | refine blk_drewN ?_ _ | refine blk_drew ?_ | refine blk_alloc ?_ _)); refine blk_far ?_ NB352_365.out _; (with_reducible repeat (first | refine blk_drewN ?_ _ | refine blk_drew ?_ | refine blk_alloc ?_ _)); refine blk_far ?_ NB352_365.out _; (with_reducible repeat (first | refine blk_drewN ?_ _ | refine blk_drew ?_ | refine blk_alloc ?_ _)); refine blk_far ?_ NB352_365.out _; (with_reducible repeat (first | refine blk_drewN ?_ _ | refine blk_drew ?_ | refine blk_alloc ?_ _)); refine blk_far ?_ NB352_365.out _; (with_reducible repeat (first | refine blk_drewN ?_ _ | refine blk_drew ?_ | refine blk_alloc ?_ _)); refine blk_far ?_ NB352_365.out _; (with_reducible repeat (first | refine blk_drewN ?_ _ | refine blk_drew ?_ | refine blk_alloc ?_ _)); exact BK352.out⟩
               have n8_ : Aside0 (((((((((w76.setCell ⟨gb365, 0, none⟩ (.int .i64 t356)).setCell ⟨gb365, 1, none⟩ (.int .i64 t357)).setCell ⟨gb365, 2, none⟩ (.int .i64 t358)).setCell ⟨gb365, 3, none⟩ (.int .i64 t359)).setCell ⟨gb365, 4, none⟩ (.int .i64 t360)).setCell ⟨gb365, 5, none⟩ (.int .i64 t361)).setCell ⟨gb365, 6, none⟩ (.int .i64 t362)).setCell ⟨gb365, 7, none⟩ (.string t363)).heap[gb365]? = some (.cells #[.int .i64 t356, .int .i64 t357, .int .i64 t358, .int .i64 t359, .int .i64 t360, .int .i64 t361, .int .i64 t362, .string t363] 31 (0, 0))) := ⟨by (with_reducible repeat (first | refine blk_drewN ?_ _ | refine blk_drew ?_ | refine blk_alloc ?_ _)); refine blk_put (cs := #[.int .i64 t356, .int .i64 t357, .int .i64 t358, .int .i64 t359, .int .i64 t360, .int .i64 t361, .int .i64 t362, .string (⟨#[]⟩ : ByteArray)]) ?_ 7 _ rfl; (with_reducible repeat (first | refine blk_drewN ?_ _ | refine blk_drew ?_ | refine blk_alloc ?_ _)); refine blk_put (cs := #[.int .i64 t356, .int .i64 t357, .int .i64 t358, .int .i64 t359, .int .i64 t360, .int .i64 t361, .int .i64 0, .string (⟨#[]⟩ : ByteArray)]) ?_ 6 _ rfl; (with_reducible repeat (first | refine blk_drewN ?_ _ | refine blk_drew ?_ | refine blk_alloc ?_ _)); refine blk_put (cs := #[.int .i64 t356, .int .i64 t357, .int .i64 t358, .int .i64 t359, .int .i64 t360, .int .i64 0, .int .i64 0, .string (⟨#[]⟩ : ByteArray)]) ?_ 5 _ rfl; (with_reducible repeat (first | refine blk_drewN ?_ _ | refine blk_drew ?_ | refine blk_alloc ?_ _)); refine blk_put (cs := #[.int .i64 t356, .int .i64 t357, .int .i64 t358, .int .i64 t359, .int .i64 0, .int .i64 0, .int .i64 0, .string (⟨#[]⟩ : ByteArray)]) ?_ 4 _ rfl; (with_reducible repeat (first | refine blk_drewN ?_ _ | refine blk_drew ?_ | refine blk_alloc ?_ _)); refine blk_put (cs := #[.int .i64 t356, .int .i64 t357, .int .i64 t358, .int .i64 0, .int .i64 0, .int .i64 0, .int .i64 0, .string (⟨#[]⟩ : ByteArray)]) ?_ 3 _ rfl; (with_reducible repeat (first | refine blk_drewN ?_ _ | refine blk_drew ?_ | refine blk_alloc ?_ _)); refine blk_put (cs := #[.int .i64 t356, .int .i64 t357, .int .i64 0, .int .i64 0, .int .i64 0, .int .i64 0, .int .i64 0, .string (⟨#[]⟩ : ByteArray)]) ?_ 2 _ rfl; (with_reducible repeat (first | refine blk_drewN ?_ _ | refine blk_drew ?_ | refine blk_alloc ?_ _)); refine blk_put (cs := #[.int .i64 t356, .int .i64 0, .int .i64 0, .int .i64 0, .int .i64 0, .int .i64 0, .int .i64 0, .string (⟨#[]⟩ : ByteArray)]) ?_ 1 _ rfl; (with_reducible repeat (first | refine blk_drewN ?_ _ | refine blk_drew ?_ | refine blk_alloc ?_ _)); refine blk_put (cs := #[.int .i64 0, .int .i64 0, .int .i64 0, .int .i64 0, .int .i64 0, .int .i64 0, .int .i64 0, .string (⟨#[]⟩ : ByteArray)]) ?_ 0 _ rfl; (with_reducible repeat (first | refine blk_drewN ?_ _ | refine blk_drew ?_ | refine blk_alloc ?_ _)); exact BK365.out⟩
               have n9_ : Aside0 (Below w.heap.size w ((((((((w76.setCell ⟨gb365, 0, none⟩ (.int .i64 t356)).setCell ⟨gb365, 1, none⟩ (.int .i64 t357)).setCell ⟨gb365, 2, none⟩ (.int .i64 t358)).setCell ⟨gb365, 3, none⟩ (.int .i64 t359)).setCell ⟨gb365, 4, none⟩ (.int .i64 t360)).setCell ⟨gb365, 5, none⟩ (.int .i64 t361)).setCell ⟨gb365, 6, none⟩ (.int .i64 t362)).setCell ⟨gb365, 7, none⟩ (.string t363))) := ⟨by repeat (first | (with_reducible first | exact HB.out | apply below_alloc | apply pw_below_drewN | apply below_drew1 | refine below_set ?_ GE317.out | refine below_set ?_ GE325.out | refine below_set ?_ GE351.out | refine below_set ?_ GE352.out | refine below_set ?_ GE365.out) | exact HB.out)⟩
               (try clear HO_5)
               (try clear HO_318000)
               (try clear HO341)
               (try clear HO355)
               (try clear BK317)
               (try clear BK325)
               (try clear BK351)
               (try clear BK352)
               (try clear BK365)
               (try clear HB)
               generalize ((((((((w76.setCell ⟨gb365, 0, none⟩ (.int .i64 t356)).setCell ⟨gb365, 1, none⟩ (.int .i64 t357)).setCell ⟨gb365, 2, none⟩ (.int .i64 t358)).setCell ⟨gb365, 3, none⟩ (.int .i64 t359)).setCell ⟨gb365, 4, none⟩ (.int .i64 t360)).setCell ⟨gb365, 5, none⟩ (.int .i64 t361)).setCell ⟨gb365, 6, none⟩ (.int .i64 t362)).setCell ⟨gb365, 7, none⟩ (.string t363)) = w82 at n0_ n1_ n2_ n3_ n4_ n5_ n6_ n7_ n8_ n9_ ⊢
               have HO_5 := n0_
               have HO_318000 := n1_
               have HO341 := n2_
               have HO355 := n3_
               have BK317 := n4_
               have BK325 := n5_
               have BK351 := n6_
               have BK352 := n7_
               have BK365 := n8_
               have HB := n9_
               clear n0_ n1_ n2_ n3_ n4_ n5_ n6_ n7_ n8_ n9_
               have n0_ := Aside0.mk (Kd.V_drew HO_5.out)
               have n1_ := Aside0.mk (Kd.V_drew HO_318000.out)
               have n2_ := Aside0.mk (Kd.V_drew HO341.out)
               have n3_ := Aside0.mk (Kd.V_drew HO355.out)
               have n4_ := Aside0.mk (blk_drew BK317.out)
               have n5_ := Aside0.mk (blk_drew BK325.out)
               have n6_ := Aside0.mk (blk_drew BK351.out)
               have n7_ := Aside0.mk (blk_drew BK352.out)
               have n8_ := Aside0.mk (blk_drew BK365.out)
               have n9_ := Aside0.mk (below_drew1 HB.out)
               clear HO_5
               clear HO_318000
               clear HO341
               clear HO355
               clear BK317
               clear BK325
               clear BK351
               clear BK352
               clear BK365
               clear HB
               have HO_5 := n0_
               have HO_318000 := n1_
               have HO341 := n2_
               have HO355 := n3_
               have BK317 := n4_
               have BK325 := n5_
               have BK351 := n6_
               have BK352 := n7_
               have BK365 := n8_
               have HB := n9_
               clear n0_ n1_ n2_ n3_ n4_ n5_ n6_ n7_ n8_ n9_
               refine start_ (n := 12) (S := fun w' => w'.cell? ⟨gb352, 0, none⟩ = some (.int .i64 t342) ∧ w'.cell? ⟨gb352, 1, none⟩ = some (.int .i64 t343) ∧ w'.cell? ⟨gb352, 2, none⟩ = some (.int .i64 t344) ∧ w'.cell? ⟨gb352, 3, none⟩ = some (.int .i64 t345) ∧ w'.cell? ⟨gb352, 4, none⟩ = some (.int .i64 t346) ∧ w'.cell? ⟨gb352, 5, none⟩ = some (.int .i64 t347) ∧ w'.cell? ⟨gb352, 6, none⟩ = some (.int .i64 t348) ∧ w'.cell? ⟨gb352, 7, none⟩ = some (.string t349) ∧ w'.cell? ⟨gb365, 0, none⟩ = some (.int .i64 t356) ∧ w'.cell? ⟨gb365, 1, none⟩ = some (.int .i64 t357) ∧ w'.cell? ⟨gb365, 2, none⟩ = some (.int .i64 t358) ∧ w'.cell? ⟨gb365, 3, none⟩ = some (.int .i64 t359) ∧ w'.cell? ⟨gb365, 4, none⟩ = some (.int .i64 t360) ∧ w'.cell? ⟨gb365, 5, none⟩ = some (.int .i64 t361) ∧ w'.cell? ⟨gb365, 6, none⟩ = some (.int .i64 t362) ∧ w'.cell? ⟨gb365, 7, none⟩ = some (.string t363)) (ds := []) #[false, false, false, false, false, false, false, false, false, false, false, false] (by kernel_rfl) rfl rfl ⟨(blk_cell BK352.out 0).trans rfl, (blk_cell BK352.out 1).trans rfl, (blk_cell BK352.out 2).trans rfl, (blk_cell BK352.out 3).trans rfl, (blk_cell BK352.out 4).trans rfl, (blk_cell BK352.out 5).trans rfl, (blk_cell BK352.out 6).trans rfl, (blk_cell BK352.out 7).trans rfl, (blk_cell BK365.out 0).trans rfl, (blk_cell BK365.out 1).trans rfl, (blk_cell BK365.out 2).trans rfl, (blk_cell BK365.out 3).trans rfl, (blk_cell BK365.out 4).trans rfl, (blk_cell BK365.out 5).trans rfl, (blk_cell BK365.out 6).trans rfl, (blk_cell BK365.out 7).trans rfl⟩ (fun hHeld => ?_); refine with_tabW haywainlaw22_NetPlays.tab24 haywainlaw22_NetPlays.bits24 (fun HT_ HW_ => ?_)
               generalize w82.drew = w83 at HO_5 HO_318000 HO341 HO355 BK317 BK325 BK351 BK352 BK365 HB hHeld ⊢
               refine pure_ (i := 0) (N := some 107) (v := ?_) (a' := ?_) #[true, false, false, false, false, false, false, false, false, false, false, false] rfl rfl (any_of HT_.out (by kernel_rfl)) (fun _ _ _ h => h) (Or.inl ⟨by rfl, ?_⟩) ?_ ?_
               rotate_left
               ·intro w'
                go_simp
                with_reducible rfl
               rotate_left
               ·simp only [Act.put, List.setIfInBounds_toArray, List.set_cons_zero, List.set_cons_succ, i64_w, i32_w]
                rfl
               refine pure_ (i := 1) (N := some 108) (v := ?_) (a' := ?_) #[true, true, false, false, false, false, false, false, false, false, false, false] rfl rfl (any_of HT_.out (by kernel_rfl)) (fun _ _ _ h => h) (Or.inl ⟨by rfl, ?_⟩) ?_ ?_
               rotate_left
               ·intro w'
                go_simp
                with_reducible rfl
               rotate_left
               ·simp only [Act.put, List.setIfInBounds_toArray, List.set_cons_zero, List.set_cons_succ, i64_w, i32_w]
                rfl
               refine pure_ (i := 2) (N := some 109) (v := ?_) (a' := ?_) #[true, true, true, false, false, false, false, false, false, false, false, false] rfl rfl (any_of HT_.out (by kernel_rfl)) (fun _ _ _ h => h) (Or.inl ⟨by rfl, ?_⟩) ?_ ?_
               rotate_left
               ·intro w'
                go_simp
                with_reducible rfl
               rotate_left
               ·simp only [Act.put, List.setIfInBounds_toArray, List.set_cons_zero, List.set_cons_succ, i64_w, i32_w]
                rfl
               refine pure_ (i := 3) (N := some 110) (v := ?_) (a' := ?_) #[true, true, true, true, false, false, false, false, false, false, false, false] rfl rfl (any_of HT_.out (by kernel_rfl)) (fun _ _ _ h => h) (Or.inl ⟨by rfl, ?_⟩) ?_ ?_
               rotate_left
               ·intro w'
                go_simp
                with_reducible rfl
               rotate_left
               ·simp only [Act.put, List.setIfInBounds_toArray, List.set_cons_zero, List.set_cons_succ, i64_w, i32_w]
                rfl
               refine take_ (i := 4) (N := some 111) (v := ?_) (a' := ?_) #[true, true, true, true, true, false, false, false, false, false, false, false] rfl rfl (take_ofW HT_.out HW_.out (by kernel_rfl)) (fun _ _ _ h => h) (Or.inl ⟨by rfl, ?_⟩) hHeld ?_ ?_
               rotate_left
               ·rintro w' ⟨s0, s1, s2, s3, s4, s5, s6, s7, s8, s9, s10, s11, s12, s13, s14, s15⟩
                go_simp
                with_reducible rfl
               rotate_left
               ·simp only [Act.put, List.setIfInBounds_toArray, List.set_cons_zero, List.set_cons_succ, i64_w, i32_w]
                rfl
               refine take_ (i := 7) (N := some 114) (v := ?_) (a' := ?_) #[true, true, true, true, true, false, false, true, false, false, false, false] rfl rfl (take_ofW HT_.out HW_.out (by kernel_rfl)) (fun _ _ _ h => h) (Or.inl ⟨by rfl, ?_⟩) hHeld ?_ ?_
               rotate_left
               ·rintro w' ⟨s0, s1, s2, s3, s4, s5, s6, s7, s8, s9, s10, s11, s12, s13, s14, s15⟩
                go_simp
                with_reducible rfl
               rotate_left
               ·simp only [Act.put, List.setIfInBounds_toArray, List.set_cons_zero, List.set_cons_succ, i64_w, i32_w]
                rfl
               refine join_ (σ := Value × Value × Value) 3 #[true, true, true, true, true, true, true, true, true, false, false, false] (fun s_ => [(112, s_.1), (113, s_.2.1), (115, s_.2.2)]) (fun s_ w' => (w'.cell? ⟨gb352, 0, none⟩ = some (.int .i64 t342) ∧ w'.cell? ⟨gb352, 1, none⟩ = some (.int .i64 t343) ∧ w'.cell? ⟨gb352, 2, none⟩ = some (.int .i64 t344) ∧ w'.cell? ⟨gb352, 3, none⟩ = some (.int .i64 t345) ∧ w'.cell? ⟨gb352, 4, none⟩ = some (.int .i64 t346) ∧ w'.cell? ⟨gb352, 5, none⟩ = some (.int .i64 t347) ∧ w'.cell? ⟨gb352, 6, none⟩ = some (.int .i64 t348) ∧ w'.cell? ⟨gb352, 7, none⟩ = some (.string t349) ∧ w'.cell? ⟨gb365, 0, none⟩ = some (.int .i64 t356) ∧ w'.cell? ⟨gb365, 1, none⟩ = some (.int .i64 t357) ∧ w'.cell? ⟨gb365, 2, none⟩ = some (.int .i64 t358) ∧ w'.cell? ⟨gb365, 3, none⟩ = some (.int .i64 t359) ∧ w'.cell? ⟨gb365, 4, none⟩ = some (.int .i64 t360) ∧ w'.cell? ⟨gb365, 5, none⟩ = some (.int .i64 t361) ∧ w'.cell? ⟨gb365, 6, none⟩ = some (.int .i64 t362) ∧ w'.cell? ⟨gb365, 7, none⟩ = some (.string t363)) ∧ (Kd.V k23 23 w' w.heap.size (fun k_ => (P0_0_ k_ ∨ w.heap.size ≤ k_) ∧ some k_ ≠ (s_.1 : Value).ownBlock ∧ some k_ ≠ (s_.2.1 : Value).ownBlock ∧ some k_ ≠ (s_.2.2 : Value).ownBlock ∧ k_ ≠ gb317 ∧ k_ ≠ gb325 ∧ k_ ≠ gb351 ∧ k_ ≠ gb352 ∧ k_ ≠ gb365) (.slice Ao63 t339.length co63) t339) ∧ (Kd.V k31 31 w' w.heap.size (fun k_ => (P0_0_ k_ ∨ w.heap.size ≤ k_) ∧ some k_ ≠ (s_.1 : Value).ownBlock ∧ some k_ ≠ (s_.2.1 : Value).ownBlock ∧ some k_ ≠ (s_.2.2 : Value).ownBlock ∧ k_ ≠ gb317 ∧ k_ ≠ gb325 ∧ k_ ≠ gb351 ∧ k_ ≠ gb352 ∧ k_ ≠ gb365) v354 t353) ∧ (Kd.R k23 23 w' w.heap.size (fun k_ => (w.heap.size ≤ k_) ∧ k_ ≠ gb352) s_.1 y366) ∧ (Kd.R k31 31 w' w.heap.size (fun k_ => (w.heap.size ≤ k_) ∧ some k_ ≠ (s_.2.2 : Value).ownBlock ∧ k_ ≠ gb365) s_.2.1 t369) ∧ (Kd.R k31 31 w' w.heap.size (fun k_ => (w.heap.size ≤ k_) ∧ some k_ ≠ (s_.2.1 : Value).ownBlock ∧ k_ ≠ gb365) s_.2.2 y372) ∧ (Kd.V k23 23 w' w.heap.size (fun k_ => (P0_0_ k_ ∨ w.heap.size ≤ k_) ∧ some k_ ≠ (s_.1 : Value).ownBlock ∧ some k_ ≠ (s_.2.1 : Value).ownBlock ∧ some k_ ≠ (s_.2.2 : Value).ownBlock ∧ k_ ≠ gb317 ∧ k_ ≠ gb325 ∧ k_ ≠ gb351 ∧ k_ ≠ gb352 ∧ k_ ≠ gb365) (.slice Ao59 x318000_1.length co59) x318000_1) ∧ (Kd.V k31 31 w' w.heap.size (fun k_ => (P0_0_ k_ ∨ w.heap.size ≤ k_) ∧ some k_ ≠ (s_.1 : Value).ownBlock ∧ some k_ ≠ (s_.2.1 : Value).ownBlock ∧ some k_ ≠ (s_.2.2 : Value).ownBlock ∧ k_ ≠ gb317 ∧ k_ ≠ gb325 ∧ k_ ≠ gb351 ∧ k_ ≠ gb352 ∧ k_ ≠ gb365) (.slice Ao74 x5_1.length co74) x5_1) ∧ (w'.heap[gb317]? = some (.cells #[.slice Ao59 x318000_1.length co59] 26 (0, 0))) ∧ (w'.heap[gb325]? = some (.cells #[.int .i64 ((rd_T39 l1 x6_1).f0), .int .i64 ((rd_T39 l1 x6_1).f1), .slice A324_2 ((rd_T39 l1 x6_1).f2).length c324_2] 39 (0, 0))) ∧ (w'.heap[gb351]? = some (.cells #[.slice Ao63 t339.length co63] 26 (0, 0))) ∧ (w'.heap[gb352]? = some (.cells #[.int .i64 t342, .int .i64 t343, .int .i64 t344, .int .i64 t345, .int .i64 t346, .int .i64 t347, .int .i64 t348, .string t349] 23 (0, 0))) ∧ (w'.heap[gb365]? = some (.cells #[.int .i64 t356, .int .i64 t357, .int .i64 t358, .int .i64 t359, .int .i64 t360, .int .i64 t361, .int .i64 t362, .string t363] 31 (0, 0))) ∧ (Below w.heap.size w w')) ?_ ?_
               rotate_left
               ·intro hCont
                refine two_ (i := 5) (j := 8) (Ni := some 112) (Nj := some 115) #[true, true, true, true, true, true, false, true, false, false, false, false] #[true, true, true, true, true, false, false, true, true, false, false, false] rfl rfl rfl rfl (two_of HT_.out (by kernel_rfl)) (by decide) (by decide) (fun K hK => ?_) (fun K hK => ?_)
                ·skip
                 refine Kd.R_lit_step k23 _ 23 ?hg (N := 112) ?hd (xs := ([(⟨t342, t343, t344, t345, t346, t347, t348, t349⟩ : S23)] : List (S23))) (inner := [.int .i64 t342, .int .i64 t343, .int .i64 t344, .int .i64 t345, .int .i64 t346, .int .i64 t347, .int .i64 t348, .string t349]) (ok := fun _ => True) (okp := fun _ => True) ?hr ?hp (fun _ hk => hk) trivial (Below.refl _ _) (Nat.le_refl _) (by simp) ?_; (case hd => rfl); (case hg => rfl); (case hr => first | (go_simp; done) | (go_simp; rfl)); (case hp => exact (Reps.c8 (show Kd.M k23 _ _ _ (⟨t342, t343, t344, t345, t346, t347, t348, t349⟩ : S23) [.int .i64 t342, .int .i64 t343, .int .i64 t344, .int .i64 t345, .int .i64 t346, .int .i64 t347, .int .i64 t348, .string t349] from (k23_mkM _ _ _ (⟨t342, t343, t344, t345, t346, t347, t348, t349⟩ : S23) )) (Reps.none _ _)))
                 intro v367 w84 ho85 hb hg_ hnew_
                 clear hg_ hnew_
                 (first | rw [← Ny366.out] at ho85 | (simp only [Int.reduceToNat] at ho85; rw [← Ny366.out] at ho85))
                 have n0_ := Aside0.mk (Kd.V_elder' (by (with_reducible repeat (first | apply Kd.V_alloc | apply Kd.V_drewN | apply Kd.V_drew)); exact HO_5.out) (Kd.R_base ho85) hb)
                 have n1_ := Aside0.mk (Kd.V_elder' (by (with_reducible repeat (first | apply Kd.V_alloc | apply Kd.V_drewN | apply Kd.V_drew)); exact HO_318000.out) (Kd.R_base ho85) hb)
                 have n2_ := Aside0.mk (Kd.V_elder' (by (with_reducible repeat (first | apply Kd.V_alloc | apply Kd.V_drewN | apply Kd.V_drew)); exact HO341.out) (Kd.R_base ho85) hb)
                 have n3_ := Aside0.mk (Kd.V_elder' (by (with_reducible repeat (first | apply Kd.V_alloc | apply Kd.V_drewN | apply Kd.V_drew)); exact HO355.out) (Kd.R_base ho85) hb)
                 have n4_ := Aside0.mk (Kd.R_lower (Kd.R_newB (Kd.R_newM (M := fun k_ => (w.heap.size ≤ k_)) ho85 (below_size (by repeat (first | (with_reducible first | exact HB.out | apply below_alloc | apply pw_below_drewN | apply below_drew1 | refine below_set ?_ GE317.out | refine below_set ?_ GE325.out | refine below_set ?_ GE351.out | refine below_set ?_ GE352.out | refine below_set ?_ GE365.out) | exact HB.out))) (fun k_ h_ => h_)) (g := gb352) (o := .cells #[.int .i64 t342, .int .i64 t343, .int .i64 t344, .int .i64 t345, .int .i64 t346, .int .i64 t347, .int .i64 t348, .string t349] 23 (0, 0)) (by (with_reducible repeat (first | refine blk_drewN ?_ _ | refine blk_drew ?_ | refine blk_alloc ?_ _)); exact BK352.out)) (below_size (by repeat (first | (with_reducible first | exact HB.out | apply below_alloc | apply pw_below_drewN | apply below_drew1 | refine below_set ?_ GE317.out | refine below_set ?_ GE325.out | refine below_set ?_ GE351.out | refine below_set ?_ GE352.out | refine below_set ?_ GE365.out) | exact HB.out))))
                 have n5_ := Aside0.mk (blk_below (g := gb317) (o := .cells #[.slice Ao59 x318000_1.length co59] 26 (0, 0)) (by (with_reducible repeat (first | refine blk_drewN ?_ _ | refine blk_drew ?_ | refine blk_alloc ?_ _)); exact BK317.out) hb)
                 have n6_ := Aside0.mk (blk_below (g := gb325) (o := .cells #[.int .i64 ((rd_T39 l1 x6_1).f0), .int .i64 ((rd_T39 l1 x6_1).f1), .slice A324_2 ((rd_T39 l1 x6_1).f2).length c324_2] 39 (0, 0)) (by (with_reducible repeat (first | refine blk_drewN ?_ _ | refine blk_drew ?_ | refine blk_alloc ?_ _)); exact BK325.out) hb)
                 have n7_ := Aside0.mk (blk_below (g := gb351) (o := .cells #[.slice Ao63 t339.length co63] 26 (0, 0)) (by (with_reducible repeat (first | refine blk_drewN ?_ _ | refine blk_drew ?_ | refine blk_alloc ?_ _)); exact BK351.out) hb)
                 have n8_ := Aside0.mk (blk_below (g := gb352) (o := .cells #[.int .i64 t342, .int .i64 t343, .int .i64 t344, .int .i64 t345, .int .i64 t346, .int .i64 t347, .int .i64 t348, .string t349] 23 (0, 0)) (by (with_reducible repeat (first | refine blk_drewN ?_ _ | refine blk_drew ?_ | refine blk_alloc ?_ _)); exact BK352.out) hb)
                 have n9_ := Aside0.mk (blk_below (g := gb365) (o := .cells #[.int .i64 t356, .int .i64 t357, .int .i64 t358, .int .i64 t359, .int .i64 t360, .int .i64 t361, .int .i64 t362, .string t363] 31 (0, 0)) (by (with_reducible repeat (first | refine blk_drewN ?_ _ | refine blk_drew ?_ | refine blk_alloc ?_ _)); exact BK365.out) hb)
                 have n10_ := Aside0.mk (below_step (by repeat (first | (with_reducible first | exact HB.out | apply below_alloc | apply pw_below_drewN | apply below_drew1 | refine below_set ?_ GE317.out | refine below_set ?_ GE325.out | refine below_set ?_ GE351.out | refine below_set ?_ GE352.out | refine below_set ?_ GE365.out) | exact HB.out)) hb)
                 clear HO_5
                 clear HO_318000
                 clear HO341
                 clear HO355
                 clear BK317
                 clear BK325
                 clear BK351
                 clear BK352
                 clear BK365
                 clear HB
                 have HO_5 := n0_
                 have HO_318000 := n1_
                 have HO341 := n2_
                 have HO355 := n3_
                 have HO368 := n4_
                 have BK317 := n5_
                 have BK325 := n6_
                 have BK351 := n7_
                 have BK352 := n8_
                 have BK365 := n9_
                 have HB := n10_
                 clear n0_ n1_ n2_ n3_ n4_ n5_ n6_ n7_ n8_ n9_ n10_
                 clear hb ho85
                 obtain ⟨Ao86, co86, eo86⟩ := Kd.R_slice HO368.out
                 (first | subst eo86 | (injection eo86 with f1_ f2_ f3_; have f4_ := f1_.symm; have f5_ := f3_.symm; clear f1_ f2_ f3_; subst f4_; subst f5_))
                 refine hK.out _ _ ⟨(blk_cell BK352.out 0).trans rfl, (blk_cell BK352.out 1).trans rfl, (blk_cell BK352.out 2).trans rfl, (blk_cell BK352.out 3).trans rfl, (blk_cell BK352.out 4).trans rfl, (blk_cell BK352.out 5).trans rfl, (blk_cell BK352.out 6).trans rfl, (blk_cell BK352.out 7).trans rfl, (blk_cell BK365.out 0).trans rfl, (blk_cell BK365.out 1).trans rfl, (blk_cell BK365.out 2).trans rfl, (blk_cell BK365.out 3).trans rfl, (blk_cell BK365.out 4).trans rfl, (blk_cell BK365.out 5).trans rfl, (blk_cell BK365.out 6).trans rfl, (blk_cell BK365.out 7).trans rfl⟩ (fun hHeld => ?_)
                 clear hK K
                 refine norm_ (a' := ?_) ?_ ?_
                 rotate_left
                 ·show Act.put _ (some 112) _ = _
                  simp only [Act.put, List.setIfInBounds_toArray, List.set_cons_zero, List.set_cons_succ, i64_w, i32_w]
                  rfl
                 refine two_ (i := 6) (j := 8) (Ni := some 113) (Nj := some 115) #[true, true, true, true, true, true, true, true, false, false, false, false] #[true, true, true, true, true, true, false, true, true, false, false, false] rfl rfl rfl rfl (two_of HT_.out (by kernel_rfl)) (by decide) (by decide) (fun K hK => ?_) (fun K hK => ?_)
                 ·skip
                  refine goes_ Try.func12 (by kernel_rfl) rfl #[.slice Ao86 y366.length co86] (by rfl) rfl rfl (by (try simp only [List.map_toArray, List.map_cons, List.map_nil]); first | done | rfl | (simp only [List.length_drop, List.length_take]; rfl)) ?_
                  with_reducible refine (haywainlaw22_As.calls kj12 _ _ y366 t369 _ ?side1 ?side2 A53.out).mono ?_
                  (case side1 => repeat (first | exact (Kd.R_reads' HO368.out).2.2 | (with_reducible refine Kd.C_alloc ?_ _) | (with_reducible refine Kd.C_drewN ?_ _) | (with_reducible refine Kd.C_drew ?_)))
                  (case side2 => exact (Kd.R_reads' HO368.out).2.1)
                  rintro e w87 ⟨v370, rfl, ho0, hb⟩
                  refine ⟨_, rfl, ?_⟩
                  have n0_ := Aside0.mk (Kd.V_elder' (by (with_reducible repeat (first | apply Kd.V_alloc | apply Kd.V_drewN | apply Kd.V_drew)); exact HO_5.out) (Kd.R_base ho0) hb)
                  have n1_ := Aside0.mk (Kd.V_elder' (by (with_reducible repeat (first | apply Kd.V_alloc | apply Kd.V_drewN | apply Kd.V_drew)); exact HO_318000.out) (Kd.R_base ho0) hb)
                  have n2_ := Aside0.mk (Kd.V_elder' (by (with_reducible repeat (first | apply Kd.V_alloc | apply Kd.V_drewN | apply Kd.V_drew)); exact HO341.out) (Kd.R_base ho0) hb)
                  have n3_ := Aside0.mk (Kd.V_elder' (by (with_reducible repeat (first | apply Kd.V_alloc | apply Kd.V_drewN | apply Kd.V_drew)); exact HO355.out) (Kd.R_base ho0) hb)
                  have n4_ := Aside0.mk (Kd.R_below (by (with_reducible repeat (first | apply Kd.R_alloc | apply Kd.R_drewN | apply Kd.R_drew)); exact HO368.out) hb)
                  have n5_ := Aside0.mk (Kd.R_lower (Kd.R_newB (Kd.R_newM (M := fun k_ => (w.heap.size ≤ k_)) ho0 (below_size (by repeat (first | (with_reducible first | exact HB.out | apply below_alloc | apply pw_below_drewN | apply below_drew1 | refine below_set ?_ GE317.out | refine below_set ?_ GE325.out | refine below_set ?_ GE351.out | refine below_set ?_ GE352.out | refine below_set ?_ GE365.out) | exact HB.out))) (fun k_ h_ => h_)) (g := gb365) (o := .cells #[.int .i64 t356, .int .i64 t357, .int .i64 t358, .int .i64 t359, .int .i64 t360, .int .i64 t361, .int .i64 t362, .string t363] 31 (0, 0)) (by (with_reducible repeat (first | refine blk_drewN ?_ _ | refine blk_drew ?_ | refine blk_alloc ?_ _)); exact BK365.out)) (below_size (by repeat (first | (with_reducible first | exact HB.out | apply below_alloc | apply pw_below_drewN | apply below_drew1 | refine below_set ?_ GE317.out | refine below_set ?_ GE325.out | refine below_set ?_ GE351.out | refine below_set ?_ GE352.out | refine below_set ?_ GE365.out) | exact HB.out))))
                  have n6_ := Aside0.mk (blk_below (g := gb317) (o := .cells #[.slice Ao59 x318000_1.length co59] 26 (0, 0)) (by (with_reducible repeat (first | refine blk_drewN ?_ _ | refine blk_drew ?_ | refine blk_alloc ?_ _)); exact BK317.out) hb)
                  have n7_ := Aside0.mk (blk_below (g := gb325) (o := .cells #[.int .i64 ((rd_T39 l1 x6_1).f0), .int .i64 ((rd_T39 l1 x6_1).f1), .slice A324_2 ((rd_T39 l1 x6_1).f2).length c324_2] 39 (0, 0)) (by (with_reducible repeat (first | refine blk_drewN ?_ _ | refine blk_drew ?_ | refine blk_alloc ?_ _)); exact BK325.out) hb)
                  have n8_ := Aside0.mk (blk_below (g := gb351) (o := .cells #[.slice Ao63 t339.length co63] 26 (0, 0)) (by (with_reducible repeat (first | refine blk_drewN ?_ _ | refine blk_drew ?_ | refine blk_alloc ?_ _)); exact BK351.out) hb)
                  have n9_ := Aside0.mk (blk_below (g := gb352) (o := .cells #[.int .i64 t342, .int .i64 t343, .int .i64 t344, .int .i64 t345, .int .i64 t346, .int .i64 t347, .int .i64 t348, .string t349] 23 (0, 0)) (by (with_reducible repeat (first | refine blk_drewN ?_ _ | refine blk_drew ?_ | refine blk_alloc ?_ _)); exact BK352.out) hb)
                  have n10_ := Aside0.mk (blk_below (g := gb365) (o := .cells #[.int .i64 t356, .int .i64 t357, .int .i64 t358, .int .i64 t359, .int .i64 t360, .int .i64 t361, .int .i64 t362, .string t363] 31 (0, 0)) (by (with_reducible repeat (first | refine blk_drewN ?_ _ | refine blk_drew ?_ | refine blk_alloc ?_ _)); exact BK365.out) hb)
                  have n11_ := Aside0.mk (below_step (by repeat (first | (with_reducible first | exact HB.out | apply below_alloc | apply pw_below_drewN | apply below_drew1 | refine below_set ?_ GE317.out | refine below_set ?_ GE325.out | refine below_set ?_ GE351.out | refine below_set ?_ GE352.out | refine below_set ?_ GE365.out) | exact HB.out)) hb)
                  clear HO_5
                  clear HO_318000
                  clear HO341
                  clear HO355
                  clear HO368
                  clear BK317
                  clear BK325
                  clear BK351
                  clear BK352
                  clear BK365
                  clear HB
                  have HO_5 := n0_
                  have HO_318000 := n1_
                  have HO341 := n2_
                  have HO355 := n3_
                  have HO368 := n4_
                  have HO371 := n5_
                  have BK317 := n6_
                  have BK325 := n7_
                  have BK351 := n8_
                  have BK352 := n9_
                  have BK365 := n10_
                  have HB := n11_
                  clear n0_ n1_ n2_ n3_ n4_ n5_ n6_ n7_ n8_ n9_ n10_ n11_
                  (try clear hb)
                  (try clear hb2)
                  (try clear hk)
                  (try clear hi)
                  (try clear ho0)
                  refine hK.out _ _ ⟨(blk_cell BK352.out 0).trans rfl, (blk_cell BK352.out 1).trans rfl, (blk_cell BK352.out 2).trans rfl, (blk_cell BK352.out 3).trans rfl, (blk_cell BK352.out 4).trans rfl, (blk_cell BK352.out 5).trans rfl, (blk_cell BK352.out 6).trans rfl, (blk_cell BK352.out 7).trans rfl, (blk_cell BK365.out 0).trans rfl, (blk_cell BK365.out 1).trans rfl, (blk_cell BK365.out 2).trans rfl, (blk_cell BK365.out 3).trans rfl, (blk_cell BK365.out 4).trans rfl, (blk_cell BK365.out 5).trans rfl, (blk_cell BK365.out 6).trans rfl, (blk_cell BK365.out 7).trans rfl⟩ (fun hHeld => ?_)
                  clear hK K
                  refine norm_ (a' := ?_) ?_ ?_
                  rotate_left
                  ·show Act.put _ (some 113) _ = _
                   simp only [Act.put, List.setIfInBounds_toArray, List.set_cons_zero, List.set_cons_succ, i64_w, i32_w]
                   rfl
                  refine one_ (i := 8) (N := some 115) #[true, true, true, true, true, true, true, true, true, false, false, false] rfl rfl (one_of HT_.out (by kernel_rfl)) (by decide) (fun K hK => ?_)
                  refine Kd.R_lit_step k31 _ 31 ?hg (N := 115) ?hd (xs := ([(⟨t356, t357, t358, t359, t360, t361, t362, t363⟩ : S31)] : List (S31))) (inner := [.int .i64 t356, .int .i64 t357, .int .i64 t358, .int .i64 t359, .int .i64 t360, .int .i64 t361, .int .i64 t362, .string t363]) (ok := fun _ => True) (okp := fun _ => True) ?hr ?hp (fun _ hk => hk) trivial (Below.refl _ _) (Nat.le_refl _) (by simp) ?_; (case hd => rfl); (case hg => rfl); (case hr => first | (go_simp; done) | (go_simp; rfl)); (case hp => exact (Reps.c8 (show Kd.M k31 _ _ _ (⟨t356, t357, t358, t359, t360, t361, t362, t363⟩ : S31) [.int .i64 t356, .int .i64 t357, .int .i64 t358, .int .i64 t359, .int .i64 t360, .int .i64 t361, .int .i64 t362, .string t363] from (k31_mkM _ _ _ (⟨t356, t357, t358, t359, t360, t361, t362, t363⟩ : S31) )) (Reps.none _ _)))
                  intro v373 w88 ho89 hb hg_ hnew_
                  clear hg_ hnew_
                  (first | rw [← Ny372.out] at ho89 | (simp only [Int.reduceToNat] at ho89; rw [← Ny372.out] at ho89))
                  have n0_ := Aside0.mk (Kd.V_elder' (by (with_reducible repeat (first | apply Kd.V_alloc | apply Kd.V_drewN | apply Kd.V_drew)); exact HO_5.out) (Kd.R_base ho89) hb)
                  have n1_ := Aside0.mk (Kd.V_elder' (by (with_reducible repeat (first | apply Kd.V_alloc | apply Kd.V_drewN | apply Kd.V_drew)); exact HO_318000.out) (Kd.R_base ho89) hb)
                  have n2_ := Aside0.mk (Kd.V_elder' (by (with_reducible repeat (first | apply Kd.V_alloc | apply Kd.V_drewN | apply Kd.V_drew)); exact HO341.out) (Kd.R_base ho89) hb)
                  have n3_ := Aside0.mk (Kd.V_elder' (by (with_reducible repeat (first | apply Kd.V_alloc | apply Kd.V_drewN | apply Kd.V_drew)); exact HO355.out) (Kd.R_base ho89) hb)
                  have n4_ := Aside0.mk (Kd.R_below (by (with_reducible repeat (first | apply Kd.R_alloc | apply Kd.R_drewN | apply Kd.R_drew)); exact HO368.out) hb)
                  have n5_ := Aside0.mk (Kd.R_elder' (by (with_reducible repeat (first | apply Kd.R_alloc | apply Kd.R_drewN | apply Kd.R_drew)); exact HO371.out) (Kd.R_base ho89) hb)
                  have n6_ := Aside0.mk (Kd.R_lower (Kd.R_newB (Kd.R_new' (Kd.R_newM (M := fun k_ => (w.heap.size ≤ k_)) ho89 (below_size (by repeat (first | (with_reducible first | exact HB.out | apply below_alloc | apply pw_below_drewN | apply below_drew1 | refine below_set ?_ GE317.out | refine below_set ?_ GE325.out | refine below_set ?_ GE351.out | refine below_set ?_ GE352.out | refine below_set ?_ GE365.out) | exact HB.out))) (fun k_ h_ => h_)) (Kd.R_lt (by (with_reducible repeat (first | apply Kd.R_alloc | apply Kd.R_drewN | apply Kd.R_drew)); exact HO371.out))) (g := gb365) (o := .cells #[.int .i64 t356, .int .i64 t357, .int .i64 t358, .int .i64 t359, .int .i64 t360, .int .i64 t361, .int .i64 t362, .string t363] 31 (0, 0)) (by (with_reducible repeat (first | refine blk_drewN ?_ _ | refine blk_drew ?_ | refine blk_alloc ?_ _)); exact BK365.out)) (below_size (by repeat (first | (with_reducible first | exact HB.out | apply below_alloc | apply pw_below_drewN | apply below_drew1 | refine below_set ?_ GE317.out | refine below_set ?_ GE325.out | refine below_set ?_ GE351.out | refine below_set ?_ GE352.out | refine below_set ?_ GE365.out) | exact HB.out))))
                  have n7_ := Aside0.mk (blk_below (g := gb317) (o := .cells #[.slice Ao59 x318000_1.length co59] 26 (0, 0)) (by (with_reducible repeat (first | refine blk_drewN ?_ _ | refine blk_drew ?_ | refine blk_alloc ?_ _)); exact BK317.out) hb)
                  have n8_ := Aside0.mk (blk_below (g := gb325) (o := .cells #[.int .i64 ((rd_T39 l1 x6_1).f0), .int .i64 ((rd_T39 l1 x6_1).f1), .slice A324_2 ((rd_T39 l1 x6_1).f2).length c324_2] 39 (0, 0)) (by (with_reducible repeat (first | refine blk_drewN ?_ _ | refine blk_drew ?_ | refine blk_alloc ?_ _)); exact BK325.out) hb)
                  have n9_ := Aside0.mk (blk_below (g := gb351) (o := .cells #[.slice Ao63 t339.length co63] 26 (0, 0)) (by (with_reducible repeat (first | refine blk_drewN ?_ _ | refine blk_drew ?_ | refine blk_alloc ?_ _)); exact BK351.out) hb)
                  have n10_ := Aside0.mk (blk_below (g := gb352) (o := .cells #[.int .i64 t342, .int .i64 t343, .int .i64 t344, .int .i64 t345, .int .i64 t346, .int .i64 t347, .int .i64 t348, .string t349] 23 (0, 0)) (by (with_reducible repeat (first | refine blk_drewN ?_ _ | refine blk_drew ?_ | refine blk_alloc ?_ _)); exact BK352.out) hb)
                  have n11_ := Aside0.mk (blk_below (g := gb365) (o := .cells #[.int .i64 t356, .int .i64 t357, .int .i64 t358, .int .i64 t359, .int .i64 t360, .int .i64 t361, .int .i64 t362, .string t363] 31 (0, 0)) (by (with_reducible repeat (first | refine blk_drewN ?_ _ | refine blk_drew ?_ | refine blk_alloc ?_ _)); exact BK365.out) hb)
                  have n12_ := Aside0.mk (below_step (by repeat (first | (with_reducible first | exact HB.out | apply below_alloc | apply pw_below_drewN | apply below_drew1 | refine below_set ?_ GE317.out | refine below_set ?_ GE325.out | refine below_set ?_ GE351.out | refine below_set ?_ GE352.out | refine below_set ?_ GE365.out) | exact HB.out)) hb)
                  clear HO_5
                  clear HO_318000
                  clear HO341
                  clear HO355
                  clear HO368
                  clear HO371
                  clear BK317
                  clear BK325
                  clear BK351
                  clear BK352
                  clear BK365
                  clear HB
                  have HO_5 := n0_
                  have HO_318000 := n1_
                  have HO341 := n2_
                  have HO355 := n3_
                  have HO368 := n4_
                  have HO371 := n5_
                  have HO374 := n6_
                  have BK317 := n7_
                  have BK325 := n8_
                  have BK351 := n9_
                  have BK352 := n10_
                  have BK365 := n11_
                  have HB := n12_
                  clear n0_ n1_ n2_ n3_ n4_ n5_ n6_ n7_ n8_ n9_ n10_ n11_ n12_
                  clear hb ho89
                  refine hK.out _ _ ⟨(blk_cell BK352.out 0).trans rfl, (blk_cell BK352.out 1).trans rfl, (blk_cell BK352.out 2).trans rfl, (blk_cell BK352.out 3).trans rfl, (blk_cell BK352.out 4).trans rfl, (blk_cell BK352.out 5).trans rfl, (blk_cell BK352.out 6).trans rfl, (blk_cell BK352.out 7).trans rfl, (blk_cell BK365.out 0).trans rfl, (blk_cell BK365.out 1).trans rfl, (blk_cell BK365.out 2).trans rfl, (blk_cell BK365.out 3).trans rfl, (blk_cell BK365.out 4).trans rfl, (blk_cell BK365.out 5).trans rfl, (blk_cell BK365.out 6).trans rfl, (blk_cell BK365.out 7).trans rfl⟩ (fun hHeld => ?_)
                  clear hK K
                  refine norm_ (a' := ?_) ?_ ?_
                  rotate_left
                  ·show Act.put _ (some 115) _ = _
                   simp only [Act.put, List.setIfInBounds_toArray, List.set_cons_zero, List.set_cons_succ, i64_w, i32_w]
                   rfl
                  exact norm_ (by simp only [putAll, Act.put, List.setIfInBounds_toArray, List.set_cons_zero, List.set_cons_succ]) (hCont (.slice Ao86 y366.length co86, v370, v373) _ ⟨hHeld, (by (with_reducible repeat (first | apply Kd.V_alloc | apply Kd.V_drewN | apply Kd.V_drew)); exact Kd.V_mono HO341.out (fun _ hk => ⟨hk.1.1.1.1, ⟨hk.1.1.2, ⟨hk.1.2, ⟨hk.2, ⟨hk.1.1.1.2.1, ⟨hk.1.1.1.2.2.1, ⟨hk.1.1.1.2.2.2.1, ⟨hk.1.1.1.2.2.2.2.1, hk.1.1.1.2.2.2.2.2⟩⟩⟩⟩⟩⟩⟩⟩)), (by (with_reducible repeat (first | apply Kd.V_alloc | apply Kd.V_drewN | apply Kd.V_drew)); exact Kd.V_mono HO355.out (fun _ hk => ⟨hk.1.1.1.1, ⟨hk.1.1.2, ⟨hk.1.2, ⟨hk.2, ⟨hk.1.1.1.2.1, ⟨hk.1.1.1.2.2.1, ⟨hk.1.1.1.2.2.2.1, ⟨hk.1.1.1.2.2.2.2.1, hk.1.1.1.2.2.2.2.2⟩⟩⟩⟩⟩⟩⟩⟩)), (by (with_reducible repeat (first | apply Kd.R_alloc | apply Kd.R_drewN | apply Kd.R_drew)); exact Kd.R_mono HO368.out (fun _ hk => ⟨hk.1.1, hk.2⟩)), (by (with_reducible repeat (first | apply Kd.R_alloc | apply Kd.R_drewN | apply Kd.R_drew)); exact Kd.R_mono HO371.out (fun _ hk => ⟨hk.1.1.1, ⟨hk.2, hk.1.2⟩⟩)), (by (with_reducible repeat (first | apply Kd.R_alloc | apply Kd.R_drewN | apply Kd.R_drew)); exact Kd.R_mono HO374.out (fun _ hk => ⟨hk.1.1.1, ⟨hk.1.2, hk.2⟩⟩)), (by (with_reducible repeat (first | apply Kd.V_alloc | apply Kd.V_drewN | apply Kd.V_drew)); exact Kd.V_mono HO_318000.out (fun _ hk => ⟨hk.1.1.1.1, ⟨hk.1.1.2, ⟨hk.1.2, ⟨hk.2, ⟨hk.1.1.1.2.1, ⟨hk.1.1.1.2.2.1, ⟨hk.1.1.1.2.2.2.1, ⟨hk.1.1.1.2.2.2.2.1, hk.1.1.1.2.2.2.2.2⟩⟩⟩⟩⟩⟩⟩⟩)), (by (with_reducible repeat (first | apply Kd.V_alloc | apply Kd.V_drewN | apply Kd.V_drew)); exact Kd.V_mono HO_5.out (fun _ hk => ⟨hk.1.1.1.1, ⟨hk.1.1.2, ⟨hk.1.2, ⟨hk.2, ⟨hk.1.1.1.2.1, ⟨hk.1.1.1.2.2.1, ⟨hk.1.1.1.2.2.2.1, ⟨hk.1.1.1.2.2.2.2.1, hk.1.1.1.2.2.2.2.2⟩⟩⟩⟩⟩⟩⟩⟩)), (by (with_reducible repeat (first | refine blk_drewN ?_ _ | refine blk_drew ?_ | refine blk_alloc ?_ _)); exact BK317.out), (by (with_reducible repeat (first | refine blk_drewN ?_ _ | refine blk_drew ?_ | refine blk_alloc ?_ _)); exact BK325.out), (by (with_reducible repeat (first | refine blk_drewN ?_ _ | refine blk_drew ?_ | refine blk_alloc ?_ _)); exact BK351.out), (by (with_reducible repeat (first | refine blk_drewN ?_ _ | refine blk_drew ?_ | refine blk_alloc ?_ _)); exact BK352.out), (by (with_reducible repeat (first | refine blk_drewN ?_ _ | refine blk_drew ?_ | refine blk_alloc ?_ _)); exact BK365.out), (by repeat (first | (with_reducible first | exact HB.out | apply below_alloc | apply pw_below_drewN | apply below_drew1 | refine below_set ?_ GE317.out | refine below_set ?_ GE325.out | refine below_set ?_ GE351.out | refine below_set ?_ GE352.out | refine below_set ?_ GE365.out) | exact HB.out))⟩)
                 ·skip
                  refine Kd.R_lit_step k31 _ 31 ?hg (N := 115) ?hd (xs := ([(⟨t356, t357, t358, t359, t360, t361, t362, t363⟩ : S31)] : List (S31))) (inner := [.int .i64 t356, .int .i64 t357, .int .i64 t358, .int .i64 t359, .int .i64 t360, .int .i64 t361, .int .i64 t362, .string t363]) (ok := fun _ => True) (okp := fun _ => True) ?hr ?hp (fun _ hk => hk) trivial (Below.refl _ _) (Nat.le_refl _) (by simp) ?_; (case hd => rfl); (case hg => rfl); (case hr => first | (go_simp; done) | (go_simp; rfl)); (case hp => exact (Reps.c8 (show Kd.M k31 _ _ _ (⟨t356, t357, t358, t359, t360, t361, t362, t363⟩ : S31) [.int .i64 t356, .int .i64 t357, .int .i64 t358, .int .i64 t359, .int .i64 t360, .int .i64 t361, .int .i64 t362, .string t363] from (k31_mkM _ _ _ (⟨t356, t357, t358, t359, t360, t361, t362, t363⟩ : S31) )) (Reps.none _ _)))
                  intro v373 w86 ho87 hb hg_ hnew_
                  clear hg_ hnew_
                  (first | rw [← Ny372.out] at ho87 | (simp only [Int.reduceToNat] at ho87; rw [← Ny372.out] at ho87))
                  have n0_ := Aside0.mk (Kd.V_elder' (by (with_reducible repeat (first | apply Kd.V_alloc | apply Kd.V_drewN | apply Kd.V_drew)); exact HO_5.out) (Kd.R_base ho87) hb)
                  have n1_ := Aside0.mk (Kd.V_elder' (by (with_reducible repeat (first | apply Kd.V_alloc | apply Kd.V_drewN | apply Kd.V_drew)); exact HO_318000.out) (Kd.R_base ho87) hb)
                  have n2_ := Aside0.mk (Kd.V_elder' (by (with_reducible repeat (first | apply Kd.V_alloc | apply Kd.V_drewN | apply Kd.V_drew)); exact HO341.out) (Kd.R_base ho87) hb)
                  have n3_ := Aside0.mk (Kd.V_elder' (by (with_reducible repeat (first | apply Kd.V_alloc | apply Kd.V_drewN | apply Kd.V_drew)); exact HO355.out) (Kd.R_base ho87) hb)
                  have n4_ := Aside0.mk (Kd.R_below (by (with_reducible repeat (first | apply Kd.R_alloc | apply Kd.R_drewN | apply Kd.R_drew)); exact HO368.out) hb)
                  have n5_ := Aside0.mk (Kd.R_lower (Kd.R_newB (Kd.R_newM (M := fun k_ => (w.heap.size ≤ k_)) ho87 (below_size (by repeat (first | (with_reducible first | exact HB.out | apply below_alloc | apply pw_below_drewN | apply below_drew1 | refine below_set ?_ GE317.out | refine below_set ?_ GE325.out | refine below_set ?_ GE351.out | refine below_set ?_ GE352.out | refine below_set ?_ GE365.out) | exact HB.out))) (fun k_ h_ => h_)) (g := gb365) (o := .cells #[.int .i64 t356, .int .i64 t357, .int .i64 t358, .int .i64 t359, .int .i64 t360, .int .i64 t361, .int .i64 t362, .string t363] 31 (0, 0)) (by (with_reducible repeat (first | refine blk_drewN ?_ _ | refine blk_drew ?_ | refine blk_alloc ?_ _)); exact BK365.out)) (below_size (by repeat (first | (with_reducible first | exact HB.out | apply below_alloc | apply pw_below_drewN | apply below_drew1 | refine below_set ?_ GE317.out | refine below_set ?_ GE325.out | refine below_set ?_ GE351.out | refine below_set ?_ GE352.out | refine below_set ?_ GE365.out) | exact HB.out))))
                  have n6_ := Aside0.mk (blk_below (g := gb317) (o := .cells #[.slice Ao59 x318000_1.length co59] 26 (0, 0)) (by (with_reducible repeat (first | refine blk_drewN ?_ _ | refine blk_drew ?_ | refine blk_alloc ?_ _)); exact BK317.out) hb)
                  have n7_ := Aside0.mk (blk_below (g := gb325) (o := .cells #[.int .i64 ((rd_T39 l1 x6_1).f0), .int .i64 ((rd_T39 l1 x6_1).f1), .slice A324_2 ((rd_T39 l1 x6_1).f2).length c324_2] 39 (0, 0)) (by (with_reducible repeat (first | refine blk_drewN ?_ _ | refine blk_drew ?_ | refine blk_alloc ?_ _)); exact BK325.out) hb)
                  have n8_ := Aside0.mk (blk_below (g := gb351) (o := .cells #[.slice Ao63 t339.length co63] 26 (0, 0)) (by (with_reducible repeat (first | refine blk_drewN ?_ _ | refine blk_drew ?_ | refine blk_alloc ?_ _)); exact BK351.out) hb)
                  have n9_ := Aside0.mk (blk_below (g := gb352) (o := .cells #[.int .i64 t342, .int .i64 t343, .int .i64 t344, .int .i64 t345, .int .i64 t346, .int .i64 t347, .int .i64 t348, .string t349] 23 (0, 0)) (by (with_reducible repeat (first | refine blk_drewN ?_ _ | refine blk_drew ?_ | refine blk_alloc ?_ _)); exact BK352.out) hb)
                  have n10_ := Aside0.mk (blk_below (g := gb365) (o := .cells #[.int .i64 t356, .int .i64 t357, .int .i64 t358, .int .i64 t359, .int .i64 t360, .int .i64 t361, .int .i64 t362, .string t363] 31 (0, 0)) (by (with_reducible repeat (first | refine blk_drewN ?_ _ | refine blk_drew ?_ | refine blk_alloc ?_ _)); exact BK365.out) hb)
                  have n11_ := Aside0.mk (below_step (by repeat (first | (with_reducible first | exact HB.out | apply below_alloc | apply pw_below_drewN | apply below_drew1 | refine below_set ?_ GE317.out | refine below_set ?_ GE325.out | refine below_set ?_ GE351.out | refine below_set ?_ GE352.out | refine below_set ?_ GE365.out) | exact HB.out)) hb)
                  clear HO_5
                  clear HO_318000
                  clear HO341
                  clear HO355
                  clear HO368
                  clear BK317
                  clear BK325
                  clear BK351
                  clear BK352
                  clear BK365
                  clear HB
                  have HO_5 := n0_
                  have HO_318000 := n1_
                  have HO341 := n2_
                  have HO355 := n3_
                  have HO368 := n4_
                  have HO374 := n5_
                  have BK317 := n6_
                  have BK325 := n7_
                  have BK351 := n8_
                  have BK352 := n9_
                  have BK365 := n10_
                  have HB := n11_
                  clear n0_ n1_ n2_ n3_ n4_ n5_ n6_ n7_ n8_ n9_ n10_ n11_
                  clear hb ho87
                  obtain ⟨Ao88, co88, eo88⟩ := Kd.R_slice HO368.out
                  (first | subst eo88 | (injection eo88 with f1_ f2_ f3_; have f4_ := f1_.symm; have f5_ := f3_.symm; clear f1_ f2_ f3_; subst f4_; subst f5_))
                  refine hK.out _ _ ⟨(blk_cell BK352.out 0).trans rfl, (blk_cell BK352.out 1).trans rfl, (blk_cell BK352.out 2).trans rfl, (blk_cell BK352.out 3).trans rfl, (blk_cell BK352.out 4).trans rfl, (blk_cell BK352.out 5).trans rfl, (blk_cell BK352.out 6).trans rfl, (blk_cell BK352.out 7).trans rfl, (blk_cell BK365.out 0).trans rfl, (blk_cell BK365.out 1).trans rfl, (blk_cell BK365.out 2).trans rfl, (blk_cell BK365.out 3).trans rfl, (blk_cell BK365.out 4).trans rfl, (blk_cell BK365.out 5).trans rfl, (blk_cell BK365.out 6).trans rfl, (blk_cell BK365.out 7).trans rfl⟩ (fun hHeld => ?_)
                  clear hK K
                  refine norm_ (a' := ?_) ?_ ?_
                  rotate_left
                  ·show Act.put _ (some 115) _ = _
                   simp only [Act.put, List.setIfInBounds_toArray, List.set_cons_zero, List.set_cons_succ, i64_w, i32_w]
                   rfl
                  refine one_ (i := 6) (N := some 113) #[true, true, true, true, true, true, true, true, true, false, false, false] rfl rfl (one_of HT_.out (by kernel_rfl)) (by decide) (fun K hK => ?_)
                  refine goes_ Try.func12 (by kernel_rfl) rfl #[.slice Ao88 y366.length co88] (by rfl) rfl rfl (by (try simp only [List.map_toArray, List.map_cons, List.map_nil]); first | done | rfl | (simp only [List.length_drop, List.length_take]; rfl)) ?_
                  with_reducible refine (haywainlaw22_As.calls kj12 _ _ y366 t369 _ ?side1 ?side2 A53.out).mono ?_
                  (case side1 => repeat (first | exact (Kd.R_reads' HO368.out).2.2 | (with_reducible refine Kd.C_alloc ?_ _) | (with_reducible refine Kd.C_drewN ?_ _) | (with_reducible refine Kd.C_drew ?_)))
                  (case side2 => exact (Kd.R_reads' HO368.out).2.1)
                  rintro e w89 ⟨v370, rfl, ho0, hb⟩
                  refine ⟨_, rfl, ?_⟩
                  have n0_ := Aside0.mk (Kd.V_elder' (by (with_reducible repeat (first | apply Kd.V_alloc | apply Kd.V_drewN | apply Kd.V_drew)); exact HO_5.out) (Kd.R_base ho0) hb)
                  have n1_ := Aside0.mk (Kd.V_elder' (by (with_reducible repeat (first | apply Kd.V_alloc | apply Kd.V_drewN | apply Kd.V_drew)); exact HO_318000.out) (Kd.R_base ho0) hb)
                  have n2_ := Aside0.mk (Kd.V_elder' (by (with_reducible repeat (first | apply Kd.V_alloc | apply Kd.V_drewN | apply Kd.V_drew)); exact HO341.out) (Kd.R_base ho0) hb)
                  have n3_ := Aside0.mk (Kd.V_elder' (by (with_reducible repeat (first | apply Kd.V_alloc | apply Kd.V_drewN | apply Kd.V_drew)); exact HO355.out) (Kd.R_base ho0) hb)
                  have n4_ := Aside0.mk (Kd.R_below (by (with_reducible repeat (first | apply Kd.R_alloc | apply Kd.R_drewN | apply Kd.R_drew)); exact HO368.out) hb)
                  have n5_ := Aside0.mk (Kd.R_elder' (by (with_reducible repeat (first | apply Kd.R_alloc | apply Kd.R_drewN | apply Kd.R_drew)); exact HO374.out) (Kd.R_base ho0) hb)
                  have n6_ := Aside0.mk (Kd.R_lower (Kd.R_newB (Kd.R_new' (Kd.R_newM (M := fun k_ => (w.heap.size ≤ k_)) ho0 (below_size (by repeat (first | (with_reducible first | exact HB.out | apply below_alloc | apply pw_below_drewN | apply below_drew1 | refine below_set ?_ GE317.out | refine below_set ?_ GE325.out | refine below_set ?_ GE351.out | refine below_set ?_ GE352.out | refine below_set ?_ GE365.out) | exact HB.out))) (fun k_ h_ => h_)) (Kd.R_lt (by (with_reducible repeat (first | apply Kd.R_alloc | apply Kd.R_drewN | apply Kd.R_drew)); exact HO374.out))) (g := gb365) (o := .cells #[.int .i64 t356, .int .i64 t357, .int .i64 t358, .int .i64 t359, .int .i64 t360, .int .i64 t361, .int .i64 t362, .string t363] 31 (0, 0)) (by (with_reducible repeat (first | refine blk_drewN ?_ _ | refine blk_drew ?_ | refine blk_alloc ?_ _)); exact BK365.out)) (below_size (by repeat (first | (with_reducible first | exact HB.out | apply below_alloc | apply pw_below_drewN | apply below_drew1 | refine below_set ?_ GE317.out | refine below_set ?_ GE325.out | refine below_set ?_ GE351.out | refine below_set ?_ GE352.out | refine below_set ?_ GE365.out) | exact HB.out))))
                  have n7_ := Aside0.mk (blk_below (g := gb317) (o := .cells #[.slice Ao59 x318000_1.length co59] 26 (0, 0)) (by (with_reducible repeat (first | refine blk_drewN ?_ _ | refine blk_drew ?_ | refine blk_alloc ?_ _)); exact BK317.out) hb)
                  have n8_ := Aside0.mk (blk_below (g := gb325) (o := .cells #[.int .i64 ((rd_T39 l1 x6_1).f0), .int .i64 ((rd_T39 l1 x6_1).f1), .slice A324_2 ((rd_T39 l1 x6_1).f2).length c324_2] 39 (0, 0)) (by (with_reducible repeat (first | refine blk_drewN ?_ _ | refine blk_drew ?_ | refine blk_alloc ?_ _)); exact BK325.out) hb)
                  have n9_ := Aside0.mk (blk_below (g := gb351) (o := .cells #[.slice Ao63 t339.length co63] 26 (0, 0)) (by (with_reducible repeat (first | refine blk_drewN ?_ _ | refine blk_drew ?_ | refine blk_alloc ?_ _)); exact BK351.out) hb)
                  have n10_ := Aside0.mk (blk_below (g := gb352) (o := .cells #[.int .i64 t342, .int .i64 t343, .int .i64 t344, .int .i64 t345, .int .i64 t346, .int .i64 t347, .int .i64 t348, .string t349] 23 (0, 0)) (by (with_reducible repeat (first | refine blk_drewN ?_ _ | refine blk_drew ?_ | refine blk_alloc ?_ _)); exact BK352.out) hb)
                  have n11_ := Aside0.mk (blk_below (g := gb365) (o := .cells #[.int .i64 t356, .int .i64 t357, .int .i64 t358, .int .i64 t359, .int .i64 t360, .int .i64 t361, .int .i64 t362, .string t363] 31 (0, 0)) (by (with_reducible repeat (first | refine blk_drewN ?_ _ | refine blk_drew ?_ | refine blk_alloc ?_ _)); exact BK365.out) hb)
                  have n12_ := Aside0.mk (below_step (by repeat (first | (with_reducible first | exact HB.out | apply below_alloc | apply pw_below_drewN | apply below_drew1 | refine below_set ?_ GE317.out | refine below_set ?_ GE325.out | refine below_set ?_ GE351.out | refine below_set ?_ GE352.out | refine below_set ?_ GE365.out) | exact HB.out)) hb)
                  clear HO_5
                  clear HO_318000
                  clear HO341
                  clear HO355
                  clear HO368
                  clear HO374
                  clear BK317
                  clear BK325
                  clear BK351
                  clear BK352
                  clear BK365
                  clear HB
                  have HO_5 := n0_
                  have HO_318000 := n1_
                  have HO341 := n2_
                  have HO355 := n3_
                  have HO368 := n4_
                  have HO374 := n5_
                  have HO371 := n6_
                  have BK317 := n7_
                  have BK325 := n8_
                  have BK351 := n9_
                  have BK352 := n10_
                  have BK365 := n11_
                  have HB := n12_
                  clear n0_ n1_ n2_ n3_ n4_ n5_ n6_ n7_ n8_ n9_ n10_ n11_ n12_
                  (try clear hb)
                  (try clear hb2)
                  (try clear hk)
                  (try clear hi)
                  (try clear ho0)
                  refine hK.out _ _ ⟨(blk_cell BK352.out 0).trans rfl, (blk_cell BK352.out 1).trans rfl, (blk_cell BK352.out 2).trans rfl, (blk_cell BK352.out 3).trans rfl, (blk_cell BK352.out 4).trans rfl, (blk_cell BK352.out 5).trans rfl, (blk_cell BK352.out 6).trans rfl, (blk_cell BK352.out 7).trans rfl, (blk_cell BK365.out 0).trans rfl, (blk_cell BK365.out 1).trans rfl, (blk_cell BK365.out 2).trans rfl, (blk_cell BK365.out 3).trans rfl, (blk_cell BK365.out 4).trans rfl, (blk_cell BK365.out 5).trans rfl, (blk_cell BK365.out 6).trans rfl, (blk_cell BK365.out 7).trans rfl⟩ (fun hHeld => ?_)
                  clear hK K
                  refine norm_ (a' := ?_) ?_ ?_
                  rotate_left
                  ·show Act.put _ (some 113) _ = _
                   simp only [Act.put, List.setIfInBounds_toArray, List.set_cons_zero, List.set_cons_succ, i64_w, i32_w]
                   rfl
                  exact norm_ (by simp only [putAll, Act.put, List.setIfInBounds_toArray, List.set_cons_zero, List.set_cons_succ]) (hCont (.slice Ao88 y366.length co88, v370, v373) _ ⟨hHeld, (by (with_reducible repeat (first | apply Kd.V_alloc | apply Kd.V_drewN | apply Kd.V_drew)); exact Kd.V_mono HO341.out (fun _ hk => ⟨hk.1.1.1.1, ⟨hk.1.1.2, ⟨hk.2, ⟨hk.1.2, ⟨hk.1.1.1.2.1, ⟨hk.1.1.1.2.2.1, ⟨hk.1.1.1.2.2.2.1, ⟨hk.1.1.1.2.2.2.2.1, hk.1.1.1.2.2.2.2.2⟩⟩⟩⟩⟩⟩⟩⟩)), (by (with_reducible repeat (first | apply Kd.V_alloc | apply Kd.V_drewN | apply Kd.V_drew)); exact Kd.V_mono HO355.out (fun _ hk => ⟨hk.1.1.1.1, ⟨hk.1.1.2, ⟨hk.2, ⟨hk.1.2, ⟨hk.1.1.1.2.1, ⟨hk.1.1.1.2.2.1, ⟨hk.1.1.1.2.2.2.1, ⟨hk.1.1.1.2.2.2.2.1, hk.1.1.1.2.2.2.2.2⟩⟩⟩⟩⟩⟩⟩⟩)), (by (with_reducible repeat (first | apply Kd.R_alloc | apply Kd.R_drewN | apply Kd.R_drew)); exact Kd.R_mono HO368.out (fun _ hk => ⟨hk.1.1, hk.2⟩)), (by (with_reducible repeat (first | apply Kd.R_alloc | apply Kd.R_drewN | apply Kd.R_drew)); exact Kd.R_mono HO371.out (fun _ hk => ⟨hk.1.1.1, ⟨hk.1.2, hk.2⟩⟩)), (by (with_reducible repeat (first | apply Kd.R_alloc | apply Kd.R_drewN | apply Kd.R_drew)); exact Kd.R_mono HO374.out (fun _ hk => ⟨hk.1.1.1, ⟨hk.2, hk.1.2⟩⟩)), (by (with_reducible repeat (first | apply Kd.V_alloc | apply Kd.V_drewN | apply Kd.V_drew)); exact Kd.V_mono HO_318000.out (fun _ hk => ⟨hk.1.1.1.1, ⟨hk.1.1.2, ⟨hk.2, ⟨hk.1.2, ⟨hk.1.1.1.2.1, ⟨hk.1.1.1.2.2.1, ⟨hk.1.1.1.2.2.2.1, ⟨hk.1.1.1.2.2.2.2.1, hk.1.1.1.2.2.2.2.2⟩⟩⟩⟩⟩⟩⟩⟩)), (by (with_reducible repeat (first | apply Kd.V_alloc | apply Kd.V_drewN | apply Kd.V_drew)); exact Kd.V_mono HO_5.out (fun _ hk => ⟨hk.1.1.1.1, ⟨hk.1.1.2, ⟨hk.2, ⟨hk.1.2, ⟨hk.1.1.1.2.1, ⟨hk.1.1.1.2.2.1, ⟨hk.1.1.1.2.2.2.1, ⟨hk.1.1.1.2.2.2.2.1, hk.1.1.1.2.2.2.2.2⟩⟩⟩⟩⟩⟩⟩⟩)), (by (with_reducible repeat (first | refine blk_drewN ?_ _ | refine blk_drew ?_ | refine blk_alloc ?_ _)); exact BK317.out), (by (with_reducible repeat (first | refine blk_drewN ?_ _ | refine blk_drew ?_ | refine blk_alloc ?_ _)); exact BK325.out), (by (with_reducible repeat (first | refine blk_drewN ?_ _ | refine blk_drew ?_ | refine blk_alloc ?_ _)); exact BK351.out), (by (with_reducible repeat (first | refine blk_drewN ?_ _ | refine blk_drew ?_ | refine blk_alloc ?_ _)); exact BK352.out), (by (with_reducible repeat (first | refine blk_drewN ?_ _ | refine blk_drew ?_ | refine blk_alloc ?_ _)); exact BK365.out), (by repeat (first | (with_reducible first | exact HB.out | apply below_alloc | apply pw_below_drewN | apply below_drew1 | refine below_set ?_ GE317.out | refine below_set ?_ GE325.out | refine below_set ?_ GE351.out | refine below_set ?_ GE352.out | refine below_set ?_ GE365.out) | exact HB.out))⟩)
                ·skip
                 refine Kd.R_lit_step k31 _ 31 ?hg (N := 115) ?hd (xs := ([(⟨t356, t357, t358, t359, t360, t361, t362, t363⟩ : S31)] : List (S31))) (inner := [.int .i64 t356, .int .i64 t357, .int .i64 t358, .int .i64 t359, .int .i64 t360, .int .i64 t361, .int .i64 t362, .string t363]) (ok := fun _ => True) (okp := fun _ => True) ?hr ?hp (fun _ hk => hk) trivial (Below.refl _ _) (Nat.le_refl _) (by simp) ?_; (case hd => rfl); (case hg => rfl); (case hr => first | (go_simp; done) | (go_simp; rfl)); (case hp => exact (Reps.c8 (show Kd.M k31 _ _ _ (⟨t356, t357, t358, t359, t360, t361, t362, t363⟩ : S31) [.int .i64 t356, .int .i64 t357, .int .i64 t358, .int .i64 t359, .int .i64 t360, .int .i64 t361, .int .i64 t362, .string t363] from (k31_mkM _ _ _ (⟨t356, t357, t358, t359, t360, t361, t362, t363⟩ : S31) )) (Reps.none _ _)))
                 intro v373 w84 ho85 hb hg_ hnew_
                 clear hg_ hnew_
                 (first | rw [← Ny372.out] at ho85 | (simp only [Int.reduceToNat] at ho85; rw [← Ny372.out] at ho85))
                 have n0_ := Aside0.mk (Kd.V_elder' (by (with_reducible repeat (first | apply Kd.V_alloc | apply Kd.V_drewN | apply Kd.V_drew)); exact HO_5.out) (Kd.R_base ho85) hb)
                 have n1_ := Aside0.mk (Kd.V_elder' (by (with_reducible repeat (first | apply Kd.V_alloc | apply Kd.V_drewN | apply Kd.V_drew)); exact HO_318000.out) (Kd.R_base ho85) hb)
                 have n2_ := Aside0.mk (Kd.V_elder' (by (with_reducible repeat (first | apply Kd.V_alloc | apply Kd.V_drewN | apply Kd.V_drew)); exact HO341.out) (Kd.R_base ho85) hb)
                 have n3_ := Aside0.mk (Kd.V_elder' (by (with_reducible repeat (first | apply Kd.V_alloc | apply Kd.V_drewN | apply Kd.V_drew)); exact HO355.out) (Kd.R_base ho85) hb)
                 have n4_ := Aside0.mk (Kd.R_lower (Kd.R_newB (Kd.R_newM (M := fun k_ => (w.heap.size ≤ k_)) ho85 (below_size (by repeat (first | (with_reducible first | exact HB.out | apply below_alloc | apply pw_below_drewN | apply below_drew1 | refine below_set ?_ GE317.out | refine below_set ?_ GE325.out | refine below_set ?_ GE351.out | refine below_set ?_ GE352.out | refine below_set ?_ GE365.out) | exact HB.out))) (fun k_ h_ => h_)) (g := gb365) (o := .cells #[.int .i64 t356, .int .i64 t357, .int .i64 t358, .int .i64 t359, .int .i64 t360, .int .i64 t361, .int .i64 t362, .string t363] 31 (0, 0)) (by (with_reducible repeat (first | refine blk_drewN ?_ _ | refine blk_drew ?_ | refine blk_alloc ?_ _)); exact BK365.out)) (below_size (by repeat (first | (with_reducible first | exact HB.out | apply below_alloc | apply pw_below_drewN | apply below_drew1 | refine below_set ?_ GE317.out | refine below_set ?_ GE325.out | refine below_set ?_ GE351.out | refine below_set ?_ GE352.out | refine below_set ?_ GE365.out) | exact HB.out))))
                 have n5_ := Aside0.mk (blk_below (g := gb317) (o := .cells #[.slice Ao59 x318000_1.length co59] 26 (0, 0)) (by (with_reducible repeat (first | refine blk_drewN ?_ _ | refine blk_drew ?_ | refine blk_alloc ?_ _)); exact BK317.out) hb)
                 have n6_ := Aside0.mk (blk_below (g := gb325) (o := .cells #[.int .i64 ((rd_T39 l1 x6_1).f0), .int .i64 ((rd_T39 l1 x6_1).f1), .slice A324_2 ((rd_T39 l1 x6_1).f2).length c324_2] 39 (0, 0)) (by (with_reducible repeat (first | refine blk_drewN ?_ _ | refine blk_drew ?_ | refine blk_alloc ?_ _)); exact BK325.out) hb)
                 have n7_ := Aside0.mk (blk_below (g := gb351) (o := .cells #[.slice Ao63 t339.length co63] 26 (0, 0)) (by (with_reducible repeat (first | refine blk_drewN ?_ _ | refine blk_drew ?_ | refine blk_alloc ?_ _)); exact BK351.out) hb)
                 have n8_ := Aside0.mk (blk_below (g := gb352) (o := .cells #[.int .i64 t342, .int .i64 t343, .int .i64 t344, .int .i64 t345, .int .i64 t346, .int .i64 t347, .int .i64 t348, .string t349] 23 (0, 0)) (by (with_reducible repeat (first | refine blk_drewN ?_ _ | refine blk_drew ?_ | refine blk_alloc ?_ _)); exact BK352.out) hb)
                 have n9_ := Aside0.mk (blk_below (g := gb365) (o := .cells #[.int .i64 t356, .int .i64 t357, .int .i64 t358, .int .i64 t359, .int .i64 t360, .int .i64 t361, .int .i64 t362, .string t363] 31 (0, 0)) (by (with_reducible repeat (first | refine blk_drewN ?_ _ | refine blk_drew ?_ | refine blk_alloc ?_ _)); exact BK365.out) hb)
                 have n10_ := Aside0.mk (below_step (by repeat (first | (with_reducible first | exact HB.out | apply below_alloc | apply pw_below_drewN | apply below_drew1 | refine below_set ?_ GE317.out | refine below_set ?_ GE325.out | refine below_set ?_ GE351.out | refine below_set ?_ GE352.out | refine below_set ?_ GE365.out) | exact HB.out)) hb)
                 clear HO_5
                 clear HO_318000
                 clear HO341
                 clear HO355
                 clear BK317
                 clear BK325
                 clear BK351
                 clear BK352
                 clear BK365
                 clear HB
                 have HO_5 := n0_
                 have HO_318000 := n1_
                 have HO341 := n2_
                 have HO355 := n3_
                 have HO374 := n4_
                 have BK317 := n5_
                 have BK325 := n6_
                 have BK351 := n7_
                 have BK352 := n8_
                 have BK365 := n9_
                 have HB := n10_
                 clear n0_ n1_ n2_ n3_ n4_ n5_ n6_ n7_ n8_ n9_ n10_
                 clear hb ho85
                 refine hK.out _ _ ⟨(blk_cell BK352.out 0).trans rfl, (blk_cell BK352.out 1).trans rfl, (blk_cell BK352.out 2).trans rfl, (blk_cell BK352.out 3).trans rfl, (blk_cell BK352.out 4).trans rfl, (blk_cell BK352.out 5).trans rfl, (blk_cell BK352.out 6).trans rfl, (blk_cell BK352.out 7).trans rfl, (blk_cell BK365.out 0).trans rfl, (blk_cell BK365.out 1).trans rfl, (blk_cell BK365.out 2).trans rfl, (blk_cell BK365.out 3).trans rfl, (blk_cell BK365.out 4).trans rfl, (blk_cell BK365.out 5).trans rfl, (blk_cell BK365.out 6).trans rfl, (blk_cell BK365.out 7).trans rfl⟩ (fun hHeld => ?_)
                 clear hK K
                 refine norm_ (a' := ?_) ?_ ?_
                 rotate_left
                 ·show Act.put _ (some 115) _ = _
                  simp only [Act.put, List.setIfInBounds_toArray, List.set_cons_zero, List.set_cons_succ, i64_w, i32_w]
                  rfl
                 refine one_ (i := 5) (N := some 112) #[true, true, true, true, true, true, false, true, true, false, false, false] rfl rfl (one_of HT_.out (by kernel_rfl)) (by decide) (fun K hK => ?_)
                 refine Kd.R_lit_step k23 _ 23 ?hg (N := 112) ?hd (xs := ([(⟨t342, t343, t344, t345, t346, t347, t348, t349⟩ : S23)] : List (S23))) (inner := [.int .i64 t342, .int .i64 t343, .int .i64 t344, .int .i64 t345, .int .i64 t346, .int .i64 t347, .int .i64 t348, .string t349]) (ok := fun _ => True) (okp := fun _ => True) ?hr ?hp (fun _ hk => hk) trivial (Below.refl _ _) (Nat.le_refl _) (by simp) ?_; (case hd => rfl); (case hg => rfl); (case hr => first | (go_simp; done) | (go_simp; rfl)); (case hp => exact (Reps.c8 (show Kd.M k23 _ _ _ (⟨t342, t343, t344, t345, t346, t347, t348, t349⟩ : S23) [.int .i64 t342, .int .i64 t343, .int .i64 t344, .int .i64 t345, .int .i64 t346, .int .i64 t347, .int .i64 t348, .string t349] from (k23_mkM _ _ _ (⟨t342, t343, t344, t345, t346, t347, t348, t349⟩ : S23) )) (Reps.none _ _)))
                 intro v367 w86 ho87 hb hg_ hnew_
                 clear hg_ hnew_
                 (first | rw [← Ny366.out] at ho87 | (simp only [Int.reduceToNat] at ho87; rw [← Ny366.out] at ho87))
                 have n0_ := Aside0.mk (Kd.V_elder' (by (with_reducible repeat (first | apply Kd.V_alloc | apply Kd.V_drewN | apply Kd.V_drew)); exact HO_5.out) (Kd.R_base ho87) hb)
                 have n1_ := Aside0.mk (Kd.V_elder' (by (with_reducible repeat (first | apply Kd.V_alloc | apply Kd.V_drewN | apply Kd.V_drew)); exact HO_318000.out) (Kd.R_base ho87) hb)
                 have n2_ := Aside0.mk (Kd.V_elder' (by (with_reducible repeat (first | apply Kd.V_alloc | apply Kd.V_drewN | apply Kd.V_drew)); exact HO341.out) (Kd.R_base ho87) hb)
                 have n3_ := Aside0.mk (Kd.V_elder' (by (with_reducible repeat (first | apply Kd.V_alloc | apply Kd.V_drewN | apply Kd.V_drew)); exact HO355.out) (Kd.R_base ho87) hb)
                 have n4_ := Aside0.mk (Kd.R_below (by (with_reducible repeat (first | apply Kd.R_alloc | apply Kd.R_drewN | apply Kd.R_drew)); exact HO374.out) hb)
                 have n5_ := Aside0.mk (Kd.R_lower (Kd.R_newB (Kd.R_newM (M := fun k_ => (w.heap.size ≤ k_)) ho87 (below_size (by repeat (first | (with_reducible first | exact HB.out | apply below_alloc | apply pw_below_drewN | apply below_drew1 | refine below_set ?_ GE317.out | refine below_set ?_ GE325.out | refine below_set ?_ GE351.out | refine below_set ?_ GE352.out | refine below_set ?_ GE365.out) | exact HB.out))) (fun k_ h_ => h_)) (g := gb352) (o := .cells #[.int .i64 t342, .int .i64 t343, .int .i64 t344, .int .i64 t345, .int .i64 t346, .int .i64 t347, .int .i64 t348, .string t349] 23 (0, 0)) (by (with_reducible repeat (first | refine blk_drewN ?_ _ | refine blk_drew ?_ | refine blk_alloc ?_ _)); exact BK352.out)) (below_size (by repeat (first | (with_reducible first | exact HB.out | apply below_alloc | apply pw_below_drewN | apply below_drew1 | refine below_set ?_ GE317.out | refine below_set ?_ GE325.out | refine below_set ?_ GE351.out | refine below_set ?_ GE352.out | refine below_set ?_ GE365.out) | exact HB.out))))
                 have n6_ := Aside0.mk (blk_below (g := gb317) (o := .cells #[.slice Ao59 x318000_1.length co59] 26 (0, 0)) (by (with_reducible repeat (first | refine blk_drewN ?_ _ | refine blk_drew ?_ | refine blk_alloc ?_ _)); exact BK317.out) hb)
                 have n7_ := Aside0.mk (blk_below (g := gb325) (o := .cells #[.int .i64 ((rd_T39 l1 x6_1).f0), .int .i64 ((rd_T39 l1 x6_1).f1), .slice A324_2 ((rd_T39 l1 x6_1).f2).length c324_2] 39 (0, 0)) (by (with_reducible repeat (first | refine blk_drewN ?_ _ | refine blk_drew ?_ | refine blk_alloc ?_ _)); exact BK325.out) hb)
                 have n8_ := Aside0.mk (blk_below (g := gb351) (o := .cells #[.slice Ao63 t339.length co63] 26 (0, 0)) (by (with_reducible repeat (first | refine blk_drewN ?_ _ | refine blk_drew ?_ | refine blk_alloc ?_ _)); exact BK351.out) hb)
                 have n9_ := Aside0.mk (blk_below (g := gb352) (o := .cells #[.int .i64 t342, .int .i64 t343, .int .i64 t344, .int .i64 t345, .int .i64 t346, .int .i64 t347, .int .i64 t348, .string t349] 23 (0, 0)) (by (with_reducible repeat (first | refine blk_drewN ?_ _ | refine blk_drew ?_ | refine blk_alloc ?_ _)); exact BK352.out) hb)
                 have n10_ := Aside0.mk (blk_below (g := gb365) (o := .cells #[.int .i64 t356, .int .i64 t357, .int .i64 t358, .int .i64 t359, .int .i64 t360, .int .i64 t361, .int .i64 t362, .string t363] 31 (0, 0)) (by (with_reducible repeat (first | refine blk_drewN ?_ _ | refine blk_drew ?_ | refine blk_alloc ?_ _)); exact BK365.out) hb)
                 have n11_ := Aside0.mk (below_step (by repeat (first | (with_reducible first | exact HB.out | apply below_alloc | apply pw_below_drewN | apply below_drew1 | refine below_set ?_ GE317.out | refine below_set ?_ GE325.out | refine below_set ?_ GE351.out | refine below_set ?_ GE352.out | refine below_set ?_ GE365.out) | exact HB.out)) hb)
                 clear HO_5
                 clear HO_318000
                 clear HO341
                 clear HO355
                 clear HO374
                 clear BK317
                 clear BK325
                 clear BK351
                 clear BK352
                 clear BK365
                 clear HB
                 have HO_5 := n0_
                 have HO_318000 := n1_
                 have HO341 := n2_
                 have HO355 := n3_
                 have HO374 := n4_
                 have HO368 := n5_
                 have BK317 := n6_
                 have BK325 := n7_
                 have BK351 := n8_
                 have BK352 := n9_
                 have BK365 := n10_
                 have HB := n11_
                 clear n0_ n1_ n2_ n3_ n4_ n5_ n6_ n7_ n8_ n9_ n10_ n11_
                 clear hb ho87
                 obtain ⟨Ao88, co88, eo88⟩ := Kd.R_slice HO368.out
                 (first | subst eo88 | (injection eo88 with f1_ f2_ f3_; have f4_ := f1_.symm; have f5_ := f3_.symm; clear f1_ f2_ f3_; subst f4_; subst f5_))
                 refine hK.out _ _ ⟨(blk_cell BK352.out 0).trans rfl, (blk_cell BK352.out 1).trans rfl, (blk_cell BK352.out 2).trans rfl, (blk_cell BK352.out 3).trans rfl, (blk_cell BK352.out 4).trans rfl, (blk_cell BK352.out 5).trans rfl, (blk_cell BK352.out 6).trans rfl, (blk_cell BK352.out 7).trans rfl, (blk_cell BK365.out 0).trans rfl, (blk_cell BK365.out 1).trans rfl, (blk_cell BK365.out 2).trans rfl, (blk_cell BK365.out 3).trans rfl, (blk_cell BK365.out 4).trans rfl, (blk_cell BK365.out 5).trans rfl, (blk_cell BK365.out 6).trans rfl, (blk_cell BK365.out 7).trans rfl⟩ (fun hHeld => ?_)
                 clear hK K
                 refine norm_ (a' := ?_) ?_ ?_
                 rotate_left
                 ·show Act.put _ (some 112) _ = _
                  simp only [Act.put, List.setIfInBounds_toArray, List.set_cons_zero, List.set_cons_succ, i64_w, i32_w]
                  rfl
                 refine one_ (i := 6) (N := some 113) #[true, true, true, true, true, true, true, true, true, false, false, false] rfl rfl (one_of HT_.out (by kernel_rfl)) (by decide) (fun K hK => ?_)
                 refine goes_ Try.func12 (by kernel_rfl) rfl #[.slice Ao88 y366.length co88] (by rfl) rfl rfl (by (try simp only [List.map_toArray, List.map_cons, List.map_nil]); first | done | rfl | (simp only [List.length_drop, List.length_take]; rfl)) ?_
                 with_reducible refine (haywainlaw22_As.calls kj12 _ _ y366 t369 _ ?side1 ?side2 A53.out).mono ?_
                 (case side1 => repeat (first | exact (Kd.R_reads' HO368.out).2.2 | (with_reducible refine Kd.C_alloc ?_ _) | (with_reducible refine Kd.C_drewN ?_ _) | (with_reducible refine Kd.C_drew ?_)))
                 (case side2 => exact (Kd.R_reads' HO368.out).2.1)
                 rintro e w89 ⟨v370, rfl, ho0, hb⟩
                 refine ⟨_, rfl, ?_⟩
                 have n0_ := Aside0.mk (Kd.V_elder' (by (with_reducible repeat (first | apply Kd.V_alloc | apply Kd.V_drewN | apply Kd.V_drew)); exact HO_5.out) (Kd.R_base ho0) hb)
                 have n1_ := Aside0.mk (Kd.V_elder' (by (with_reducible repeat (first | apply Kd.V_alloc | apply Kd.V_drewN | apply Kd.V_drew)); exact HO_318000.out) (Kd.R_base ho0) hb)
                 have n2_ := Aside0.mk (Kd.V_elder' (by (with_reducible repeat (first | apply Kd.V_alloc | apply Kd.V_drewN | apply Kd.V_drew)); exact HO341.out) (Kd.R_base ho0) hb)
                 have n3_ := Aside0.mk (Kd.V_elder' (by (with_reducible repeat (first | apply Kd.V_alloc | apply Kd.V_drewN | apply Kd.V_drew)); exact HO355.out) (Kd.R_base ho0) hb)
                 have n4_ := Aside0.mk (Kd.R_elder' (by (with_reducible repeat (first | apply Kd.R_alloc | apply Kd.R_drewN | apply Kd.R_drew)); exact HO374.out) (Kd.R_base ho0) hb)
                 have n5_ := Aside0.mk (Kd.R_below (by (with_reducible repeat (first | apply Kd.R_alloc | apply Kd.R_drewN | apply Kd.R_drew)); exact HO368.out) hb)
                 have n6_ := Aside0.mk (Kd.R_lower (Kd.R_newB (Kd.R_new' (Kd.R_newM (M := fun k_ => (w.heap.size ≤ k_)) ho0 (below_size (by repeat (first | (with_reducible first | exact HB.out | apply below_alloc | apply pw_below_drewN | apply below_drew1 | refine below_set ?_ GE317.out | refine below_set ?_ GE325.out | refine below_set ?_ GE351.out | refine below_set ?_ GE352.out | refine below_set ?_ GE365.out) | exact HB.out))) (fun k_ h_ => h_)) (Kd.R_lt (by (with_reducible repeat (first | apply Kd.R_alloc | apply Kd.R_drewN | apply Kd.R_drew)); exact HO374.out))) (g := gb365) (o := .cells #[.int .i64 t356, .int .i64 t357, .int .i64 t358, .int .i64 t359, .int .i64 t360, .int .i64 t361, .int .i64 t362, .string t363] 31 (0, 0)) (by (with_reducible repeat (first | refine blk_drewN ?_ _ | refine blk_drew ?_ | refine blk_alloc ?_ _)); exact BK365.out)) (below_size (by repeat (first | (with_reducible first | exact HB.out | apply below_alloc | apply pw_below_drewN | apply below_drew1 | refine below_set ?_ GE317.out | refine below_set ?_ GE325.out | refine below_set ?_ GE351.out | refine below_set ?_ GE352.out | refine below_set ?_ GE365.out) | exact HB.out))))
                 have n7_ := Aside0.mk (blk_below (g := gb317) (o := .cells #[.slice Ao59 x318000_1.length co59] 26 (0, 0)) (by (with_reducible repeat (first | refine blk_drewN ?_ _ | refine blk_drew ?_ | refine blk_alloc ?_ _)); exact BK317.out) hb)
                 have n8_ := Aside0.mk (blk_below (g := gb325) (o := .cells #[.int .i64 ((rd_T39 l1 x6_1).f0), .int .i64 ((rd_T39 l1 x6_1).f1), .slice A324_2 ((rd_T39 l1 x6_1).f2).length c324_2] 39 (0, 0)) (by (with_reducible repeat (first | refine blk_drewN ?_ _ | refine blk_drew ?_ | refine blk_alloc ?_ _)); exact BK325.out) hb)
                 have n9_ := Aside0.mk (blk_below (g := gb351) (o := .cells #[.slice Ao63 t339.length co63] 26 (0, 0)) (by (with_reducible repeat (first | refine blk_drewN ?_ _ | refine blk_drew ?_ | refine blk_alloc ?_ _)); exact BK351.out) hb)
                 have n10_ := Aside0.mk (blk_below (g := gb352) (o := .cells #[.int .i64 t342, .int .i64 t343, .int .i64 t344, .int .i64 t345, .int .i64 t346, .int .i64 t347, .int .i64 t348, .string t349] 23 (0, 0)) (by (with_reducible repeat (first | refine blk_drewN ?_ _ | refine blk_drew ?_ | refine blk_alloc ?_ _)); exact BK352.out) hb)
                 have n11_ := Aside0.mk (blk_below (g := gb365) (o := .cells #[.int .i64 t356, .int .i64 t357, .int .i64 t358, .int .i64 t359, .int .i64 t360, .int .i64 t361, .int .i64 t362, .string t363] 31 (0, 0)) (by (with_reducible repeat (first | refine blk_drewN ?_ _ | refine blk_drew ?_ | refine blk_alloc ?_ _)); exact BK365.out) hb)
                 have n12_ := Aside0.mk (below_step (by repeat (first | (with_reducible first | exact HB.out | apply below_alloc | apply pw_below_drewN | apply below_drew1 | refine below_set ?_ GE317.out | refine below_set ?_ GE325.out | refine below_set ?_ GE351.out | refine below_set ?_ GE352.out | refine below_set ?_ GE365.out) | exact HB.out)) hb)
                 clear HO_5
                 clear HO_318000
                 clear HO341
                 clear HO355
                 clear HO374
                 clear HO368
                 clear BK317
                 clear BK325
                 clear BK351
                 clear BK352
                 clear BK365
                 clear HB
                 have HO_5 := n0_
                 have HO_318000 := n1_
                 have HO341 := n2_
                 have HO355 := n3_
                 have HO374 := n4_
                 have HO368 := n5_
                 have HO371 := n6_
                 have BK317 := n7_
                 have BK325 := n8_
                 have BK351 := n9_
                 have BK352 := n10_
                 have BK365 := n11_
                 have HB := n12_
                 clear n0_ n1_ n2_ n3_ n4_ n5_ n6_ n7_ n8_ n9_ n10_ n11_ n12_
                 (try clear hb)
                 (try clear hb2)
                 (try clear hk)
                 (try clear hi)
                 (try clear ho0)
                 refine hK.out _ _ ⟨(blk_cell BK352.out 0).trans rfl, (blk_cell BK352.out 1).trans rfl, (blk_cell BK352.out 2).trans rfl, (blk_cell BK352.out 3).trans rfl, (blk_cell BK352.out 4).trans rfl, (blk_cell BK352.out 5).trans rfl, (blk_cell BK352.out 6).trans rfl, (blk_cell BK352.out 7).trans rfl, (blk_cell BK365.out 0).trans rfl, (blk_cell BK365.out 1).trans rfl, (blk_cell BK365.out 2).trans rfl, (blk_cell BK365.out 3).trans rfl, (blk_cell BK365.out 4).trans rfl, (blk_cell BK365.out 5).trans rfl, (blk_cell BK365.out 6).trans rfl, (blk_cell BK365.out 7).trans rfl⟩ (fun hHeld => ?_)
                 clear hK K
                 refine norm_ (a' := ?_) ?_ ?_
                 rotate_left
                 ·show Act.put _ (some 113) _ = _
                  simp only [Act.put, List.setIfInBounds_toArray, List.set_cons_zero, List.set_cons_succ, i64_w, i32_w]
                  rfl
                 exact norm_ (by simp only [putAll, Act.put, List.setIfInBounds_toArray, List.set_cons_zero, List.set_cons_succ]) (hCont (.slice Ao88 y366.length co88, v370, v373) _ ⟨hHeld, (by (with_reducible repeat (first | apply Kd.V_alloc | apply Kd.V_drewN | apply Kd.V_drew)); exact Kd.V_mono HO341.out (fun _ hk => ⟨hk.1.1.1.1, ⟨hk.1.2, ⟨hk.2, ⟨hk.1.1.2, ⟨hk.1.1.1.2.1, ⟨hk.1.1.1.2.2.1, ⟨hk.1.1.1.2.2.2.1, ⟨hk.1.1.1.2.2.2.2.1, hk.1.1.1.2.2.2.2.2⟩⟩⟩⟩⟩⟩⟩⟩)), (by (with_reducible repeat (first | apply Kd.V_alloc | apply Kd.V_drewN | apply Kd.V_drew)); exact Kd.V_mono HO355.out (fun _ hk => ⟨hk.1.1.1.1, ⟨hk.1.2, ⟨hk.2, ⟨hk.1.1.2, ⟨hk.1.1.1.2.1, ⟨hk.1.1.1.2.2.1, ⟨hk.1.1.1.2.2.2.1, ⟨hk.1.1.1.2.2.2.2.1, hk.1.1.1.2.2.2.2.2⟩⟩⟩⟩⟩⟩⟩⟩)), (by (with_reducible repeat (first | apply Kd.R_alloc | apply Kd.R_drewN | apply Kd.R_drew)); exact Kd.R_mono HO368.out (fun _ hk => ⟨hk.1.1, hk.2⟩)), (by (with_reducible repeat (first | apply Kd.R_alloc | apply Kd.R_drewN | apply Kd.R_drew)); exact Kd.R_mono HO371.out (fun _ hk => ⟨hk.1.1.1, ⟨hk.1.2, hk.2⟩⟩)), (by (with_reducible repeat (first | apply Kd.R_alloc | apply Kd.R_drewN | apply Kd.R_drew)); exact Kd.R_mono HO374.out (fun _ hk => ⟨hk.1.1.1, ⟨hk.2, hk.1.2⟩⟩)), (by (with_reducible repeat (first | apply Kd.V_alloc | apply Kd.V_drewN | apply Kd.V_drew)); exact Kd.V_mono HO_318000.out (fun _ hk => ⟨hk.1.1.1.1, ⟨hk.1.2, ⟨hk.2, ⟨hk.1.1.2, ⟨hk.1.1.1.2.1, ⟨hk.1.1.1.2.2.1, ⟨hk.1.1.1.2.2.2.1, ⟨hk.1.1.1.2.2.2.2.1, hk.1.1.1.2.2.2.2.2⟩⟩⟩⟩⟩⟩⟩⟩)), (by (with_reducible repeat (first | apply Kd.V_alloc | apply Kd.V_drewN | apply Kd.V_drew)); exact Kd.V_mono HO_5.out (fun _ hk => ⟨hk.1.1.1.1, ⟨hk.1.2, ⟨hk.2, ⟨hk.1.1.2, ⟨hk.1.1.1.2.1, ⟨hk.1.1.1.2.2.1, ⟨hk.1.1.1.2.2.2.1, ⟨hk.1.1.1.2.2.2.2.1, hk.1.1.1.2.2.2.2.2⟩⟩⟩⟩⟩⟩⟩⟩)), (by (with_reducible repeat (first | refine blk_drewN ?_ _ | refine blk_drew ?_ | refine blk_alloc ?_ _)); exact BK317.out), (by (with_reducible repeat (first | refine blk_drewN ?_ _ | refine blk_drew ?_ | refine blk_alloc ?_ _)); exact BK325.out), (by (with_reducible repeat (first | refine blk_drewN ?_ _ | refine blk_drew ?_ | refine blk_alloc ?_ _)); exact BK351.out), (by (with_reducible repeat (first | refine blk_drewN ?_ _ | refine blk_drew ?_ | refine blk_alloc ?_ _)); exact BK352.out), (by (with_reducible repeat (first | refine blk_drewN ?_ _ | refine blk_drew ?_ | refine blk_alloc ?_ _)); exact BK365.out), (by repeat (first | (with_reducible first | exact HB.out | apply below_alloc | apply pw_below_drewN | apply below_drew1 | refine below_set ?_ GE317.out | refine below_set ?_ GE325.out | refine below_set ?_ GE351.out | refine below_set ?_ GE352.out | refine below_set ?_ GE365.out) | exact HB.out))⟩)
               rintro ⟨v367, v370, v373⟩ w90 ⟨hS_, h0_, h1_, h2_, h3_, h4_, h5_, h6_, h7_, h8_, h9_, h10_, h11_, h12_⟩
               have n0_ : Aside0 (Kd.V k23 23 w90 w.heap.size (fun k_ => (P0_0_ k_ ∨ w.heap.size ≤ k_) ∧ some k_ ≠ (v367 : Value).ownBlock ∧ some k_ ≠ (v370 : Value).ownBlock ∧ some k_ ≠ (v373 : Value).ownBlock ∧ k_ ≠ gb317 ∧ k_ ≠ gb325 ∧ k_ ≠ gb351 ∧ k_ ≠ gb352 ∧ k_ ≠ gb365) (.slice Ao63 t339.length co63) t339) := ⟨h0_⟩
               have n1_ : Aside0 (Kd.V k31 31 w90 w.heap.size (fun k_ => (P0_0_ k_ ∨ w.heap.size ≤ k_) ∧ some k_ ≠ (v367 : Value).ownBlock ∧ some k_ ≠ (v370 : Value).ownBlock ∧ some k_ ≠ (v373 : Value).ownBlock ∧ k_ ≠ gb317 ∧ k_ ≠ gb325 ∧ k_ ≠ gb351 ∧ k_ ≠ gb352 ∧ k_ ≠ gb365) v354 t353) := ⟨h1_⟩
               have n2_ : Aside0 (Kd.R k23 23 w90 w.heap.size (fun k_ => (w.heap.size ≤ k_) ∧ k_ ≠ gb352) v367 y366) := ⟨h2_⟩
               have n3_ : Aside0 (Kd.R k31 31 w90 w.heap.size (fun k_ => (w.heap.size ≤ k_) ∧ some k_ ≠ (v373 : Value).ownBlock ∧ k_ ≠ gb365) v370 t369) := ⟨h3_⟩
               have n4_ : Aside0 (Kd.R k31 31 w90 w.heap.size (fun k_ => (w.heap.size ≤ k_) ∧ some k_ ≠ (v370 : Value).ownBlock ∧ k_ ≠ gb365) v373 y372) := ⟨h4_⟩
               have n5_ : Aside0 (Kd.V k23 23 w90 w.heap.size (fun k_ => (P0_0_ k_ ∨ w.heap.size ≤ k_) ∧ some k_ ≠ (v367 : Value).ownBlock ∧ some k_ ≠ (v370 : Value).ownBlock ∧ some k_ ≠ (v373 : Value).ownBlock ∧ k_ ≠ gb317 ∧ k_ ≠ gb325 ∧ k_ ≠ gb351 ∧ k_ ≠ gb352 ∧ k_ ≠ gb365) (.slice Ao59 x318000_1.length co59) x318000_1) := ⟨h5_⟩
               have n6_ : Aside0 (Kd.V k31 31 w90 w.heap.size (fun k_ => (P0_0_ k_ ∨ w.heap.size ≤ k_) ∧ some k_ ≠ (v367 : Value).ownBlock ∧ some k_ ≠ (v370 : Value).ownBlock ∧ some k_ ≠ (v373 : Value).ownBlock ∧ k_ ≠ gb317 ∧ k_ ≠ gb325 ∧ k_ ≠ gb351 ∧ k_ ≠ gb352 ∧ k_ ≠ gb365) (.slice Ao74 x5_1.length co74) x5_1) := ⟨h6_⟩
               have n7_ : Aside0 (w90.heap[gb317]? = some (.cells #[.slice Ao59 x318000_1.length co59] 26 (0, 0))) := ⟨h7_⟩
               have n8_ : Aside0 (w90.heap[gb325]? = some (.cells #[.int .i64 ((rd_T39 l1 x6_1).f0), .int .i64 ((rd_T39 l1 x6_1).f1), .slice A324_2 ((rd_T39 l1 x6_1).f2).length c324_2] 39 (0, 0))) := ⟨h8_⟩
               have n9_ : Aside0 (w90.heap[gb351]? = some (.cells #[.slice Ao63 t339.length co63] 26 (0, 0))) := ⟨h9_⟩
               have n10_ : Aside0 (w90.heap[gb352]? = some (.cells #[.int .i64 t342, .int .i64 t343, .int .i64 t344, .int .i64 t345, .int .i64 t346, .int .i64 t347, .int .i64 t348, .string t349] 23 (0, 0))) := ⟨h10_⟩
               have n11_ : Aside0 (w90.heap[gb365]? = some (.cells #[.int .i64 t356, .int .i64 t357, .int .i64 t358, .int .i64 t359, .int .i64 t360, .int .i64 t361, .int .i64 t362, .string t363] 31 (0, 0))) := ⟨h11_⟩
               have n12_ : Aside0 (Below w.heap.size w w90) := ⟨h12_⟩
               clear HO_5
               clear HO_318000
               clear HO341
               clear HO355
               clear BK317
               clear BK325
               clear BK351
               clear BK352
               clear BK365
               clear HB
               clear h0_ h1_ h2_ h3_ h4_ h5_ h6_ h7_ h8_ h9_ h10_ h11_ h12_
               have HO341 := n0_
               have HO355 := n1_
               have HO368 := n2_
               have HO371 := n3_
               have HO374 := n4_
               have HO_318000 := n5_
               have HO_5 := n6_
               have BK317 := n7_
               have BK325 := n8_
               have BK351 := n9_
               have BK352 := n10_
               have BK365 := n11_
               have HB := n12_
               clear n0_ n1_ n2_ n3_ n4_ n5_ n6_ n7_ n8_ n9_ n10_ n11_ n12_
               have hHeld : w90.cell? ⟨gb352, 0, none⟩ = some (.int .i64 t342) ∧ w90.cell? ⟨gb352, 1, none⟩ = some (.int .i64 t343) ∧ w90.cell? ⟨gb352, 2, none⟩ = some (.int .i64 t344) ∧ w90.cell? ⟨gb352, 3, none⟩ = some (.int .i64 t345) ∧ w90.cell? ⟨gb352, 4, none⟩ = some (.int .i64 t346) ∧ w90.cell? ⟨gb352, 5, none⟩ = some (.int .i64 t347) ∧ w90.cell? ⟨gb352, 6, none⟩ = some (.int .i64 t348) ∧ w90.cell? ⟨gb352, 7, none⟩ = some (.string t349) ∧ w90.cell? ⟨gb365, 0, none⟩ = some (.int .i64 t356) ∧ w90.cell? ⟨gb365, 1, none⟩ = some (.int .i64 t357) ∧ w90.cell? ⟨gb365, 2, none⟩ = some (.int .i64 t358) ∧ w90.cell? ⟨gb365, 3, none⟩ = some (.int .i64 t359) ∧ w90.cell? ⟨gb365, 4, none⟩ = some (.int .i64 t360) ∧ w90.cell? ⟨gb365, 5, none⟩ = some (.int .i64 t361) ∧ w90.cell? ⟨gb365, 6, none⟩ = some (.int .i64 t362) ∧ w90.cell? ⟨gb365, 7, none⟩ = some (.string t363) := hS_
               obtain ⟨Ao91, co91, eo91⟩ := Kd.R_slice HO371.out
               (first | subst eo91 | (injection eo91 with f1_ f2_ f3_; have f4_ := f1_.symm; have f5_ := f3_.symm; clear f1_ f2_ f3_; subst f4_; subst f5_))
               obtain ⟨Ao92, co92, eo92⟩ := Kd.R_slice HO374.out
               (first | subst eo92 | (injection eo92 with f1_ f2_ f3_; have f4_ := f1_.symm; have f5_ := f3_.symm; clear f1_ f2_ f3_; subst f4_; subst f5_))
               refine norm_ (a' := ?_) ?_ ?_
               rotate_left
               ·simp only [putAll, Act.put, List.setIfInBounds_toArray, List.set_cons_zero, List.set_cons_succ]
                rfl
               refine one_ (i := 9) (N := some 116) #[true, true, true, true, true, true, true, true, true, true, false, false] rfl rfl (one_of HT_.out (by kernel_rfl)) (by decide) (fun K hK => ?_)
               refine goes_ Try.func19 (by kernel_rfl) rfl #[.slice Ao91 t369.length co91, .slice Ao92 y372.length co92] (by rfl) rfl rfl (by (try simp only [List.map_toArray, List.map_cons, List.map_nil]); first | done | rfl | (simp only [List.length_drop, List.length_take]; rfl)) ?_
               with_reducible refine (haywainref22_Same.calls kj12 _ _ t369 _ _ y372 true _ ?side1 ?side2 ?side3 ?side4 A54.out).mono ?_
               (case side1 => repeat (first | exact (Kd.R_reads' HO371.out).2.2 | (with_reducible refine Kd.C_alloc ?_ _) | (with_reducible refine Kd.C_drewN ?_ _) | (with_reducible refine Kd.C_drew ?_)))
               (case side2 => exact (Kd.R_reads' HO371.out).2.1)
               (case side3 => repeat (first | exact (Kd.R_reads' HO374.out).2.2 | (with_reducible refine Kd.C_alloc ?_ _) | (with_reducible refine Kd.C_drewN ?_ _) | (with_reducible refine Kd.C_drew ?_)))
               (case side4 => exact (Kd.R_reads' HO374.out).2.1)
               rintro e w' ⟨rfl, ⟨nd, rfl⟩⟩
               refine ⟨_, rfl, ?_⟩
               refine hK.out _ _ ⟨(blk_cell BK352.out 0).trans rfl, (blk_cell BK352.out 1).trans rfl, (blk_cell BK352.out 2).trans rfl, (blk_cell BK352.out 3).trans rfl, (blk_cell BK352.out 4).trans rfl, (blk_cell BK352.out 5).trans rfl, (blk_cell BK352.out 6).trans rfl, (blk_cell BK352.out 7).trans rfl, (blk_cell BK365.out 0).trans rfl, (blk_cell BK365.out 1).trans rfl, (blk_cell BK365.out 2).trans rfl, (blk_cell BK365.out 3).trans rfl, (blk_cell BK365.out 4).trans rfl, (blk_cell BK365.out 5).trans rfl, (blk_cell BK365.out 6).trans rfl, (blk_cell BK365.out 7).trans rfl⟩ (fun hHeld => ?_)
               clear hK K
               refine norm_ (a' := ?_) ?_ ?_
               rotate_left
               ·show Act.put _ (some 116) _ = _
                simp only [Act.put, List.setIfInBounds_toArray, List.set_cons_zero, List.set_cons_succ, i64_w, i32_w]
                rfl
               refine pure_ (i := 10) (N := some 117) (v := ?_) (a' := ?_) #[true, true, true, true, true, true, true, true, true, true, true, false] rfl rfl (any_of HT_.out (by kernel_rfl)) (fun _ _ _ h => h) (Or.inl ⟨by rfl, ?_⟩) ?_ ?_
               rotate_left
               ·intro w'
                go_simp
                with_reducible rfl
               rotate_left
               ·simp only [Act.put, List.setIfInBounds_toArray, List.set_cons_zero, List.set_cons_succ, i64_w, i32_w]
                rfl
               refine pure_ (i := 11) (N := some 118) (v := ?_) (a' := ?_) #[true, true, true, true, true, true, true, true, true, true, true, true] rfl rfl (any_of HT_.out (by kernel_rfl)) (fun _ _ _ h => h) (Or.inl ⟨by rfl, ?_⟩) ?_ ?_
               rotate_left
               ·intro w'
                go_simp
                with_reducible rfl
               rotate_left
               ·simp only [Act.put, List.setIfInBounds_toArray, List.set_cons_zero, List.set_cons_succ, i64_w, i32_w]
                rfl
               refine done_ (done_of HT_.out (by kernel_rfl)) ?_
               have hcz93_0 : w90.cell? ⟨gb351, 0, none⟩ = some (.slice Ao63 t339.length co63) := (blk_cell BK351.out 0).trans rfl
               have hfz93_0 := blk_frozen BK351.out 0
               have hcz94_0 : w90.cell? ⟨gb317, 0, none⟩ = some (.slice Ao59 x318000_1.length co59) := (blk_cell BK317.out 0).trans rfl
               have hfz94_0 := blk_frozen BK317.out 0
               try go_wp2
               go_meet
               case rel => exact ⟨_, (t353), (t339), (.slice Ao63 t339.length co63), H', ⟨by have := HK1.out; have := HJ12.out; first | omega | exact Nat.le_refl _⟩, ⟨by (with_reducible repeat (first | apply Kd.V_alloc | apply Kd.V_drewN | apply Kd.V_drew)); exact Kd.V_mono (Kd.V_far (p := ⟨gb317, 0, none⟩) (Kd.V_mono HO355.out (fun k_ hk => (⟨hk, hk.2.2.2.2.1⟩ : _ ∧ k_ ≠ gb317))) (fun _ hk => hk.2) (.slice Ao63 t339.length co63)) (fun _ hk => ⟨hk.1.1, ⟨hk.1.2.2.2.2.1, hk.1.2.2.2.2.2.1⟩⟩)⟩, ⟨by (with_reducible repeat (first | apply Kd.V_alloc | apply Kd.V_drewN | apply Kd.V_drew)); exact Kd.V_mono (Kd.V_far (p := ⟨gb317, 0, none⟩) (Kd.V_mono HO341.out (fun k_ hk => (⟨hk, hk.2.2.2.2.1⟩ : _ ∧ k_ ≠ gb317))) (fun _ hk => hk.2) (.slice Ao63 t339.length co63)) (fun _ hk => ⟨hk.1.1, ⟨hk.1.2.2.2.2.1, hk.1.2.2.2.2.2.1⟩⟩)⟩, ⟨by (with_reducible repeat (first | refine blk_drewN ?_ _ | refine blk_drew ?_ | refine blk_alloc ?_ _)); refine blk_put (cs := #[.slice Ao59 x318000_1.length co59]) ?_ 0 _ rfl; (with_reducible repeat (first | refine blk_drewN ?_ _ | refine blk_drew ?_ | refine blk_alloc ?_ _)); exact BK317.out⟩, ⟨by (with_reducible repeat (first | refine blk_drewN ?_ _ | refine blk_drew ?_ | refine blk_alloc ?_ _)); refine blk_far ?_ NB325_317.out _; (with_reducible repeat (first | refine blk_drewN ?_ _ | refine blk_drew ?_ | refine blk_alloc ?_ _)); exact BK325.out⟩, ⟨by repeat (first | (with_reducible first | exact HB.out | apply below_alloc | apply pw_below_drewN | apply below_drew1 | refine below_set ?_ GE317.out | refine below_set ?_ GE325.out | refine below_set ?_ GE351.out | refine below_set ?_ GE352.out | refine below_set ?_ GE365.out) | exact HB.out)⟩⟩
              ·replace c55 := Bool.eq_false_iff.mpr c55
               subst c55
               have H1 : (none) = some r := by rw [if_neg (show ¬ (false = true) by decide)] at H; exact H
               clear H
               have H := H1
               clear H1
               exact absurd H (by simp)
             ·rw [if_neg c52] at H
              exact absurd H (by simp)
            ·rw [if_neg c49] at H
             have c49b0 : (((rd_T39 l1 x6_1).f0) == 1) = false := beq_eq_false_iff_ne.mpr c49
             have c49b1 : (((rd_T39 l1 x6_1).f0) != 1) = true := bne_iff_ne.mpr c49
             replace H := Option.bind_eq_some_iff.mp H
             obtain ⟨⟨t376, t379⟩, A950, H⟩ := H
             replace H : ((haywainref22_Twice.f kj12 x5_1 ((rd_T39 l1 x6_1).f1)).bind fun bt381 => (if t379 = bt381.2 then (haywainlaw22_NetPlays.j2 kj12 l1 bt381.1 x6_1 t376) else (none))) = some r := H
             have A95 := Aside0.mk A950
             clear A950
             replace H := Option.bind_eq_some_iff.mp H
             obtain ⟨⟨t381, t384⟩, A960, H⟩ := H
             replace H : (if t379 = t384 then (haywainlaw22_NetPlays.j2 kj12 l1 t381 x6_1 t376) else (none)) = some r := H
             have A96 := Aside0.mk A960
             clear A960
             by_cases c97 : t379 = t384
             ·rw [if_pos c97] at H
              have c97b0 : (t379 == t384) = true := beq_iff_eq.mpr c97
              have c97b1 : (t379 != t384) = false := bne_eq_false_iff_eq.mpr c97
              clear c97
              have H' := Aside0.mk H
              clear H
              have hnb98 := NB317_325.out
              have hnc98 := NB325_317.out
              have hcz99_0 : w24.cell? ⟨gb317, 0, none⟩ = some (u318000) := (blk_cell BK317.out 0).trans rfl
              have hfz99_0 := blk_frozen BK317.out 0
              have hcz100_0 : w24.cell? ⟨gb325, 0, none⟩ = some (.int .i64 0) := (blk_cell BK325.out 0).trans rfl
              have hcz100_1 : w24.cell? ⟨gb325, 1, none⟩ = some (.int .i64 0) := (blk_cell BK325.out 1).trans rfl
              have hcz100_2 : w24.cell? ⟨gb325, 2, none⟩ = some (.slice none 0 0) := (blk_cell BK325.out 2).trans rfl
              have hfz100_0 := blk_frozen BK325.out 0
              have hfz100_1 := blk_frozen BK325.out 1
              have hfz100_2 := blk_frozen BK325.out 2
              obtain ⟨Ao101, co101, eo101⟩ := Kd.V_slice HO_318000.out
              subst eo101
              go_wp2_with (first | ((with_reducible refine gate_callee (f := 20) rfl ?_); refine goesL_ (some 52) rfl rfl Try.func20 (by kernel_rfl) rfl #[.agg #[.slice Ao101 x318000_1.length co101], .int .i64 ((rd_T39 l1 x6_1).f1)] rfl (by (try simp only [List.map_toArray, List.map_cons, List.map_nil]); first | done | rfl | (simp only [List.length_drop, List.length_take]; rfl)) ?_; (with_reducible refine (net_Twice.calls kj12 _ _ x318000_1 ((rd_T39 l1 x6_1).f1) t376 t379 _ ?side1 ?side2 A95.out).mono ?_); (case side1 => refine (Kd.V_reads' (e := 23) (base := w.heap.size) (ok := fun k_ => ((((P0_0_ k_ ∨ w.heap.size ≤ k_)) ∧ k_ ≠ gb317) ∧ k_ ≠ gb325)) (n := x318000_1.length) (c := co101) ?_).2.2; exact (by (with_reducible repeat (first | apply Kd.V_alloc | apply Kd.V_drewN | apply Kd.V_drew)); exact (Kd.V_mono (Kd.V_far (p := ⟨gb325, 2, none⟩) (Kd.V_far (p := ⟨gb325, 1, none⟩) (Kd.V_far (p := ⟨gb325, 0, none⟩) (Kd.V_mono HO_318000.out (fun k_ hk => (⟨hk, hk.2⟩ : _ ∧ k_ ≠ gb325))) (fun _ hk => hk.2) (.int .i64 ((rd_T39 l1 x6_1).f0))) (fun _ hk => hk.2) (.int .i64 ((rd_T39 l1 x6_1).f1))) (fun _ hk => hk.2) (.slice A324_2 ((rd_T39 l1 x6_1).f2).length c324_2)) (fun _ h_ => h_.1)))); (case side2 => exact (Kd.V_reads' HO_318000.out).2.1); rintro e w102 ⟨v377, rfl, ho0, hb⟩; refine ⟨_, rfl, ?_⟩; have n0_ := Aside0.mk (Kd.V_elder' (by (with_reducible repeat (first | apply Kd.V_alloc | apply Kd.V_drewN | apply Kd.V_drew)); exact (Kd.V_mono (Kd.V_far (p := ⟨gb325, 2, none⟩) (Kd.V_far (p := ⟨gb325, 1, none⟩) (Kd.V_far (p := ⟨gb325, 0, none⟩) (Kd.V_mono HO_5.out (fun k_ hk => (⟨hk, hk.2⟩ : _ ∧ k_ ≠ gb325))) (fun _ hk => hk.2) (.int .i64 ((rd_T39 l1 x6_1).f0))) (fun _ hk => hk.2) (.int .i64 ((rd_T39 l1 x6_1).f1))) (fun _ hk => hk.2) (.slice A324_2 ((rd_T39 l1 x6_1).f2).length c324_2)) (fun _ h_ => h_.1))) (Kd.R_base ho0) hb); have n1_ := Aside0.mk (Kd.V_elder' (by (with_reducible repeat (first | apply Kd.V_alloc | apply Kd.V_drewN | apply Kd.V_drew)); exact (Kd.V_mono (Kd.V_far (p := ⟨gb325, 2, none⟩) (Kd.V_far (p := ⟨gb325, 1, none⟩) (Kd.V_far (p := ⟨gb325, 0, none⟩) (Kd.V_mono HO_318000.out (fun k_ hk => (⟨hk, hk.2⟩ : _ ∧ k_ ≠ gb325))) (fun _ hk => hk.2) (.int .i64 ((rd_T39 l1 x6_1).f0))) (fun _ hk => hk.2) (.int .i64 ((rd_T39 l1 x6_1).f1))) (fun _ hk => hk.2) (.slice A324_2 ((rd_T39 l1 x6_1).f2).length c324_2)) (fun _ h_ => h_.1))) (Kd.R_base ho0) hb); have n2_ := Aside0.mk (Kd.R_lower (Kd.R_newM (M := fun k_ => (w.heap.size ≤ k_)) ho0 (below_size (by repeat (first | (with_reducible first | exact HB.out | apply below_alloc | apply pw_below_drewN | apply below_drew1 | refine below_set ?_ GE317.out | refine below_set ?_ GE325.out) | exact HB.out))) (fun k_ h_ => h_)) (below_size (by repeat (first | (with_reducible first | exact HB.out | apply below_alloc | apply pw_below_drewN | apply below_drew1 | refine below_set ?_ GE317.out | refine below_set ?_ GE325.out) | exact HB.out)))); have n3_ := Aside0.mk (blk_below (g := gb317) (o := .cells #[.slice Ao101 x318000_1.length co101] 26 (0, 0)) (by (with_reducible repeat (first | refine blk_drewN ?_ _ | refine blk_drew ?_ | refine blk_alloc ?_ _)); refine blk_far ?_ NB317_325.out _; (with_reducible repeat (first | refine blk_drewN ?_ _ | refine blk_drew ?_ | refine blk_alloc ?_ _)); refine blk_far ?_ NB317_325.out _; (with_reducible repeat (first | refine blk_drewN ?_ _ | refine blk_drew ?_ | refine blk_alloc ?_ _)); refine blk_far ?_ NB317_325.out _; (with_reducible repeat (first | refine blk_drewN ?_ _ | refine blk_drew ?_ | refine blk_alloc ?_ _)); exact BK317.out) hb); have n4_ := Aside0.mk (blk_below (g := gb325) (o := .cells #[.int .i64 ((rd_T39 l1 x6_1).f0), .int .i64 ((rd_T39 l1 x6_1).f1), .slice A324_2 ((rd_T39 l1 x6_1).f2).length c324_2] 39 (0, 0)) (by (with_reducible repeat (first | refine blk_drewN ?_ _ | refine blk_drew ?_ | refine blk_alloc ?_ _)); refine blk_put (cs := #[.int .i64 ((rd_T39 l1 x6_1).f0), .int .i64 ((rd_T39 l1 x6_1).f1), .slice none 0 0]) ?_ 2 _ rfl; (with_reducible repeat (first | refine blk_drewN ?_ _ | refine blk_drew ?_ | refine blk_alloc ?_ _)); refine blk_put (cs := #[.int .i64 ((rd_T39 l1 x6_1).f0), .int .i64 0, .slice none 0 0]) ?_ 1 _ rfl; (with_reducible repeat (first | refine blk_drewN ?_ _ | refine blk_drew ?_ | refine blk_alloc ?_ _)); refine blk_put (cs := #[.int .i64 0, .int .i64 0, .slice none 0 0]) ?_ 0 _ rfl; (with_reducible repeat (first | refine blk_drewN ?_ _ | refine blk_drew ?_ | refine blk_alloc ?_ _)); exact BK325.out) hb); have n5_ := Aside0.mk (below_step (by repeat (first | (with_reducible first | exact HB.out | apply below_alloc | apply pw_below_drewN | apply below_drew1 | refine below_set ?_ GE317.out | refine below_set ?_ GE325.out) | exact HB.out)) hb); clear HO_5; clear HO_318000; clear BK317; clear BK325; clear HB; have HO_5 := n0_; have HO_318000 := n1_; have HO378 := n2_; have BK317 := n3_; have BK325 := n4_; have HB := n5_; clear n0_ n1_ n2_ n3_ n4_ n5_; (try clear hb); (try clear hb2); (try clear hk); (try clear hi); (try clear ho0)) | ((with_reducible refine gate_dst (N := 18) rfl ?_); (try (refine gate_guard (by rfl) ?_; dsimp only)); refine box_event ?hg (N := 18) ?hd (cs := #[.slice none 0 0]) (t := 26) ?hr ?_; (case hd => rfl); (case hg => rfl); (case hr => first | (go_simp; done) | (go_simp; rfl)); intro gb380 hg w103 hbox hb; have n0_ := Aside0.mk (Kd.V_below (Kd.V_elderB (by (with_reducible repeat (first | apply Kd.V_alloc | apply Kd.V_drewN | apply Kd.V_drew)); exact HO_5.out) gb380 (Nat.le_of_eq hg.symm)) hb); have n1_ := Aside0.mk (Kd.V_below (Kd.V_elderB (by (with_reducible repeat (first | apply Kd.V_alloc | apply Kd.V_drewN | apply Kd.V_drew)); exact HO_318000.out) gb380 (Nat.le_of_eq hg.symm)) hb); have n2_ := Aside0.mk (Kd.R_below (by (with_reducible repeat (first | apply Kd.R_alloc | apply Kd.R_drewN | apply Kd.R_drew)); exact HO378.out) hb); have n3_ := Aside0.mk (blk_below (g := gb317) (o := .cells #[.slice Ao101 x318000_1.length co101] 26 (0, 0)) (by (with_reducible repeat (first | refine blk_drewN ?_ _ | refine blk_drew ?_ | refine blk_alloc ?_ _)); exact BK317.out) hb); have n4_ := Aside0.mk (blk_below (g := gb325) (o := .cells #[.int .i64 ((rd_T39 l1 x6_1).f0), .int .i64 ((rd_T39 l1 x6_1).f1), .slice A324_2 ((rd_T39 l1 x6_1).f2).length c324_2] 39 (0, 0)) (by (with_reducible repeat (first | refine blk_drewN ?_ _ | refine blk_drew ?_ | refine blk_alloc ?_ _)); exact BK325.out) hb); have n5_ := Aside0.mk (below_step (by repeat (first | (with_reducible first | exact HB.out | apply below_alloc | apply pw_below_drewN | apply below_drew1 | refine below_set ?_ GE317.out | refine below_set ?_ GE325.out) | exact HB.out)) hb); have n6_ := Aside0.mk (hbox); have n7_ := Aside0.mk ((by rw [hg]; exact (below_size (by repeat (first | (with_reducible first | exact HB.out | apply below_alloc | apply pw_below_drewN | apply below_drew1 | refine below_set ?_ GE317.out | refine below_set ?_ GE325.out) | exact HB.out))) : w.heap.size ≤ gb380)); have n8_ := Aside0.mk ((by rw [hg]; exact (below_size (by repeat (first | (with_reducible first | exact HB.out | apply below_alloc | apply pw_below_drewN | apply below_drew1 | refine below_set ?_ GE317.out | refine below_set ?_ GE325.out) | exact HB.out))) : w.heap.size ≤ gb380)); have n9_ := Aside0.mk ((by rw [hg]; exact Nat.ne_of_lt (blk_lt (g := gb317) (o := .cells #[.slice Ao101 x318000_1.length co101] 26 (0, 0)) (by (with_reducible repeat (first | refine blk_drewN ?_ _ | refine blk_drew ?_ | refine blk_alloc ?_ _)); exact BK317.out)) : gb317 ≠ gb380)); have n10_ := Aside0.mk ((by rw [hg]; exact Nat.ne_of_gt (blk_lt (g := gb317) (o := .cells #[.slice Ao101 x318000_1.length co101] 26 (0, 0)) (by (with_reducible repeat (first | refine blk_drewN ?_ _ | refine blk_drew ?_ | refine blk_alloc ?_ _)); exact BK317.out)) : gb380 ≠ gb317)); have n11_ := Aside0.mk ((by rw [hg]; exact Nat.ne_of_lt (blk_lt (g := gb325) (o := .cells #[.int .i64 ((rd_T39 l1 x6_1).f0), .int .i64 ((rd_T39 l1 x6_1).f1), .slice A324_2 ((rd_T39 l1 x6_1).f2).length c324_2] 39 (0, 0)) (by (with_reducible repeat (first | refine blk_drewN ?_ _ | refine blk_drew ?_ | refine blk_alloc ?_ _)); exact BK325.out)) : gb325 ≠ gb380)); have n12_ := Aside0.mk ((by rw [hg]; exact Nat.ne_of_gt (blk_lt (g := gb325) (o := .cells #[.int .i64 ((rd_T39 l1 x6_1).f0), .int .i64 ((rd_T39 l1 x6_1).f1), .slice A324_2 ((rd_T39 l1 x6_1).f2).length c324_2] 39 (0, 0)) (by (with_reducible repeat (first | refine blk_drewN ?_ _ | refine blk_drew ?_ | refine blk_alloc ?_ _)); exact BK325.out)) : gb380 ≠ gb325)); clear HO_5; clear HO_318000; clear HO378; clear BK317; clear BK325; clear HB; have HO_5 := n0_; have HO_318000 := n1_; have HO378 := n2_; have BK317 := n3_; have BK325 := n4_; have HB := n5_; have BK380 := n6_; have GW380 := n7_; have GE380 := n8_; have NB317_380 := n9_; have NB380_317 := n10_; have NB325_380 := n11_; have NB380_325 := n12_; clear n0_ n1_ n2_ n3_ n4_ n5_ n6_ n7_ n8_ n9_ n10_ n11_ n12_; clear hb hbox hg; obtain ⟨Ao104, co104, eo104⟩ := Kd.R_slice HO378.out; subst eo104; have hnb105 := NB380_317.out; have hnc105 := NB317_380.out; have hnb106 := NB380_325.out; have hnc106 := NB325_380.out; have hcz107_0 : w103.cell? ⟨gb380, 0, none⟩ = some (.slice none 0 0) := (blk_cell BK380.out 0).trans rfl; have hfz107_0 := blk_frozen BK380.out 0) | ((with_reducible refine gate_store (t := 26) (p := 18) rfl ?_); refine store_event (t := 26) (p := 18) (v := ?vo_w108) (w1 := (w103.setCell ⟨gb380, 0, none⟩ (.slice Ao104 t376.length co104))) ?hg ?ho ?hn ?hr ?_; (case ho => rfl); (case hg => rfl); (case hn => rfl); (case hr => first | (go_simp; done) | (go_simp; rfl)); intro w108 hw; have n0_ : Aside0 (Kd.V k31 31 w108 w.heap.size (fun k_ => (P0_0_ k_ ∨ w.heap.size ≤ k_) ∧ some k_ ≠ (.slice Ao104 t376.length co104 : Value).ownBlock ∧ k_ ≠ gb317 ∧ k_ ≠ gb325 ∧ k_ ≠ gb380) u5 x5_1) := ⟨(by rw [hw]; exact (by (with_reducible repeat (first | apply Kd.V_alloc | apply Kd.V_drewN | apply Kd.V_drew)); exact Kd.V_mono (Kd.V_far (p := ⟨gb380, 0, none⟩) (Kd.V_mono HO_5.out (fun k_ hk => (⟨hk, hk.2⟩ : _ ∧ k_ ≠ gb380))) (fun _ hk => hk.2) (.slice Ao104 t376.length co104)) (fun _ hk => ⟨hk.1.1.1.1.1, ⟨hk.1.1.2, ⟨hk.1.1.1.1.2, ⟨hk.1.1.1.2, hk.1.2⟩⟩⟩⟩)))⟩; have n1_ : Aside0 (Kd.V k23 23 w108 w.heap.size (fun k_ => (P0_0_ k_ ∨ w.heap.size ≤ k_) ∧ some k_ ≠ (.slice Ao104 t376.length co104 : Value).ownBlock ∧ k_ ≠ gb317 ∧ k_ ≠ gb325 ∧ k_ ≠ gb380) (.slice Ao101 x318000_1.length co101) x318000_1) := ⟨(by rw [hw]; exact (by (with_reducible repeat (first | apply Kd.V_alloc | apply Kd.V_drewN | apply Kd.V_drew)); exact Kd.V_mono (Kd.V_far (p := ⟨gb380, 0, none⟩) (Kd.V_mono HO_318000.out (fun k_ hk => (⟨hk, hk.2⟩ : _ ∧ k_ ≠ gb380))) (fun _ hk => hk.2) (.slice Ao104 t376.length co104)) (fun _ hk => ⟨hk.1.1.1.1.1, ⟨hk.1.1.2, ⟨hk.1.1.1.1.2, ⟨hk.1.1.1.2, hk.1.2⟩⟩⟩⟩)))⟩; have n2_ : Aside0 (Kd.R k23 23 w108 w.heap.size (fun k_ => (w.heap.size ≤ k_)) (.slice Ao104 t376.length co104) t376) := ⟨(by rw [hw]; exact (by (with_reducible repeat (first | apply Kd.R_alloc | apply Kd.R_drewN | apply Kd.R_drew)); exact Kd.R_mono (Kd.R_far (p := ⟨gb380, 0, none⟩) (Kd.R_types HO378.out BK380.out (by decide)) (fun _ hk => hk.2) (.slice Ao104 t376.length co104)) (fun _ hk => hk.1.1)))⟩; have n3_ : Aside0 (w108.heap[gb317]? = some (.cells #[.slice Ao101 x318000_1.length co101] 26 (0, 0))) := ⟨(by rw [hw]; exact (by (with_reducible repeat (first | refine blk_drewN ?_ _ | refine blk_drew ?_ | refine blk_alloc ?_ _)); refine blk_far ?_ NB317_380.out _; (with_reducible repeat (first | refine blk_drewN ?_ _ | refine blk_drew ?_ | refine blk_alloc ?_ _)); exact BK317.out))⟩; have n4_ : Aside0 (w108.heap[gb325]? = some (.cells #[.int .i64 ((rd_T39 l1 x6_1).f0), .int .i64 ((rd_T39 l1 x6_1).f1), .slice A324_2 ((rd_T39 l1 x6_1).f2).length c324_2] 39 (0, 0))) := ⟨(by rw [hw]; exact (by (with_reducible repeat (first | refine blk_drewN ?_ _ | refine blk_drew ?_ | refine blk_alloc ?_ _)); refine blk_far ?_ NB325_380.out _; (with_reducible repeat (first | refine blk_drewN ?_ _ | refine blk_drew ?_ | refine blk_alloc ?_ _)); exact BK325.out))⟩; have n5_ : Aside0 (w108.heap[gb380]? = some (.cells #[.slice Ao104 t376.length co104] 26 (0, 0))) := ⟨(by rw [hw]; exact (by (with_reducible repeat (first | refine blk_drewN ?_ _ | refine blk_drew ?_ | refine blk_alloc ?_ _)); refine blk_put (cs := #[.slice none 0 0]) ?_ 0 _ rfl; (with_reducible repeat (first | refine blk_drewN ?_ _ | refine blk_drew ?_ | refine blk_alloc ?_ _)); exact BK380.out))⟩; have n6_ : Aside0 (Below w.heap.size w w108) := ⟨(by rw [hw]; exact (by repeat (first | (with_reducible first | exact HB.out | apply below_alloc | apply pw_below_drewN | apply below_drew1 | refine below_set ?_ GE317.out | refine below_set ?_ GE325.out | refine below_set ?_ GE380.out) | exact HB.out)))⟩; clear hw; clear HO_5; clear HO_318000; clear HO378; clear BK317; clear BK325; clear BK380; clear HB; have HO_5 := n0_; have HO_318000 := n1_; have HO378 := n2_; have BK317 := n3_; have BK325 := n4_; have BK380 := n5_; have HB := n6_; clear n0_ n1_ n2_ n3_ n4_ n5_ n6_; have hcz109_0 : w108.cell? ⟨gb325, 0, none⟩ = some (.int .i64 ((rd_T39 l1 x6_1).f0)) := (blk_cell BK325.out 0).trans rfl; have hcz109_1 : w108.cell? ⟨gb325, 1, none⟩ = some (.int .i64 ((rd_T39 l1 x6_1).f1)) := (blk_cell BK325.out 1).trans rfl; have hcz109_2 : w108.cell? ⟨gb325, 2, none⟩ = some (.slice A324_2 ((rd_T39 l1 x6_1).f2).length c324_2) := (blk_cell BK325.out 2).trans rfl; have hfz109_0 := blk_frozen BK325.out 0; have hfz109_1 := blk_frozen BK325.out 1; have hfz109_2 := blk_frozen BK325.out 2; obtain ⟨Ao110, co110, eo110⟩ := Kd.V_slice HO_5.out; subst eo110) | ((with_reducible refine gate_callee (f := 21) rfl ?_); refine goesL_ (some 59) rfl rfl Try.func21 (by kernel_rfl) rfl #[.slice Ao110 x5_1.length co110, .int .i64 ((rd_T39 l1 x6_1).f1)] rfl (by (try simp only [List.map_toArray, List.map_cons, List.map_nil]); first | done | rfl | (simp only [List.length_drop, List.length_take]; rfl)) ?_; (with_reducible refine (haywainref22_Twice.calls kj12 (fun k_ => ((P0_0_ k_ ∨ w.heap.size ≤ k_) ∧ (some k_ ≠ (.slice Ao104 t376.length co104 : Value).ownBlock ∧ (k_ ≠ gb317 ∧ (k_ ≠ gb325 ∧ k_ ≠ gb380))))) _ _ x5_1 ((rd_T39 l1 x6_1).f1) t381 t384 _ ?side1 A96.out).mono ?_); (case side1 => exact HO_5.out); rintro e w111 ⟨v382, rfl, ho0, hb⟩; refine ⟨_, rfl, ?_⟩; have n0_ := Aside0.mk (Kd.V_below (by (with_reducible repeat (first | apply Kd.V_alloc | apply Kd.V_drewN | apply Kd.V_drew)); exact HO_5.out) hb); have n1_ := Aside0.mk (Kd.V_below (by (with_reducible repeat (first | apply Kd.V_alloc | apply Kd.V_drewN | apply Kd.V_drew)); exact HO_318000.out) hb); have n2_ := Aside0.mk (Kd.R_below (by (with_reducible repeat (first | apply Kd.R_alloc | apply Kd.R_drewN | apply Kd.R_drew)); exact HO378.out) hb); have n3_ := Aside0.mk (Kd.V_lower (Kd.V_mono (ok' := fun k_ => (P0_0_ k_ ∨ w.heap.size ≤ k_) ∧ some k_ ≠ (.slice Ao104 t376.length co104 : Value).ownBlock ∧ k_ ≠ gb317 ∧ k_ ≠ gb325 ∧ k_ ≠ gb380) ho0 (fun k_ hk_ => ⟨Or.elim hk_ (fun hs_ => hs_.1) (fun hn_ => (.inr (Nat.le_trans (below_size (by repeat (first | (with_reducible first | exact HB.out | apply below_alloc | apply pw_below_drewN | apply below_drew1 | refine below_set ?_ GE317.out | refine below_set ?_ GE325.out | refine below_set ?_ GE380.out) | exact HB.out))) hn_))), Or.elim hk_ (fun hs_ => hs_.2.1) (fun hn_ => (Kd.fresh' (Kd.R_lt (by (with_reducible repeat (first | apply Kd.R_alloc | apply Kd.R_drewN | apply Kd.R_drew)); exact HO378.out)) k_ hn_)), Or.elim hk_ (fun hs_ => hs_.2.2.1) (fun hn_ => (Kd.freshB (g := gb317) (o := .cells #[.slice Ao101 x318000_1.length co101] 26 (0, 0)) (by (with_reducible repeat (first | refine blk_drewN ?_ _ | refine blk_drew ?_ | refine blk_alloc ?_ _)); exact BK317.out) k_ hn_)), Or.elim hk_ (fun hs_ => hs_.2.2.2.1) (fun hn_ => (Kd.freshB (g := gb325) (o := .cells #[.int .i64 ((rd_T39 l1 x6_1).f0), .int .i64 ((rd_T39 l1 x6_1).f1), .slice A324_2 ((rd_T39 l1 x6_1).f2).length c324_2] 39 (0, 0)) (by (with_reducible repeat (first | refine blk_drewN ?_ _ | refine blk_drew ?_ | refine blk_alloc ?_ _)); exact BK325.out) k_ hn_)), Or.elim hk_ (fun hs_ => hs_.2.2.2.2) (fun hn_ => (Kd.freshB (g := gb380) (o := .cells #[.slice Ao104 t376.length co104] 26 (0, 0)) (by (with_reducible repeat (first | refine blk_drewN ?_ _ | refine blk_drew ?_ | refine blk_alloc ?_ _)); exact BK380.out) k_ hn_))⟩)) (below_size (by repeat (first | (with_reducible first | exact HB.out | apply below_alloc | apply pw_below_drewN | apply below_drew1 | refine below_set ?_ GE317.out | refine below_set ?_ GE325.out | refine below_set ?_ GE380.out) | exact HB.out)))); have n4_ := Aside0.mk (blk_below (g := gb317) (o := .cells #[.slice Ao101 x318000_1.length co101] 26 (0, 0)) (by (with_reducible repeat (first | refine blk_drewN ?_ _ | refine blk_drew ?_ | refine blk_alloc ?_ _)); exact BK317.out) hb); have n5_ := Aside0.mk (blk_below (g := gb325) (o := .cells #[.int .i64 ((rd_T39 l1 x6_1).f0), .int .i64 ((rd_T39 l1 x6_1).f1), .slice A324_2 ((rd_T39 l1 x6_1).f2).length c324_2] 39 (0, 0)) (by (with_reducible repeat (first | refine blk_drewN ?_ _ | refine blk_drew ?_ | refine blk_alloc ?_ _)); exact BK325.out) hb); have n6_ := Aside0.mk (blk_below (g := gb380) (o := .cells #[.slice Ao104 t376.length co104] 26 (0, 0)) (by (with_reducible repeat (first | refine blk_drewN ?_ _ | refine blk_drew ?_ | refine blk_alloc ?_ _)); exact BK380.out) hb); have n7_ := Aside0.mk (below_step (by repeat (first | (with_reducible first | exact HB.out | apply below_alloc | apply pw_below_drewN | apply below_drew1 | refine below_set ?_ GE317.out | refine below_set ?_ GE325.out | refine below_set ?_ GE380.out) | exact HB.out)) hb); clear HO_5; clear HO_318000; clear HO378; clear BK317; clear BK325; clear BK380; clear HB; have HO_5 := n0_; have HO_318000 := n1_; have HO378 := n2_; have HO383 := n3_; have BK317 := n4_; have BK325 := n5_; have BK380 := n6_; have HB := n7_; clear n0_ n1_ n2_ n3_ n4_ n5_ n6_ n7_; (try clear hb); (try clear hb2); (try clear hk); (try clear hi); (try clear ho0); have hcz112_0 : w111.cell? ⟨gb380, 0, none⟩ = some (.slice Ao104 t376.length co104) := (blk_cell BK380.out 0).trans rfl; have hfz112_0 := blk_frozen BK380.out 0; have hcz113_0 : w111.cell? ⟨gb317, 0, none⟩ = some (.slice Ao101 x318000_1.length co101) := (blk_cell BK317.out 0).trans rfl; have hfz113_0 := blk_frozen BK317.out 0))
              go_meet
              case rel => exact ⟨_, (t381), (t376), (.slice Ao104 t376.length co104), H', ⟨by have := HK1.out; have := HJ12.out; first | omega | exact Nat.le_refl _⟩, ⟨by (with_reducible repeat (first | apply Kd.V_alloc | apply Kd.V_drewN | apply Kd.V_drew)); exact Kd.V_mono (Kd.V_far (p := ⟨gb317, 0, none⟩) (Kd.V_mono HO383.out (fun k_ hk => (⟨hk, hk.2.2.1⟩ : _ ∧ k_ ≠ gb317))) (fun _ hk => hk.2) (.slice Ao104 t376.length co104)) (fun _ hk => ⟨hk.1.1, ⟨hk.1.2.2.1, hk.1.2.2.2.1⟩⟩)⟩, ⟨Kd.V_mono (Kd.R_V (by (with_reducible repeat (first | apply Kd.R_alloc | apply Kd.R_drewN | apply Kd.R_drew)); exact (Kd.R_far (p := ⟨gb317, 0, none⟩) (Kd.R_types (Kd.R_types (Kd.R_types HO378.out BK317.out (by decide)) BK325.out (by decide)) BK317.out (by decide)) (fun _ hk => hk.2) (.slice Ao104 t376.length co104)))) (fun k_ hk => by first | exact ⟨(.inr (hk.1.1.1)), ⟨hk.1.1.2, hk.1.2⟩⟩ | exact ⟨(.inr (hk.1)), hk.2⟩ | exact (.inr (hk)))⟩, ⟨by (with_reducible repeat (first | refine blk_drewN ?_ _ | refine blk_drew ?_ | refine blk_alloc ?_ _)); refine blk_put (cs := #[.slice Ao101 x318000_1.length co101]) ?_ 0 _ rfl; (with_reducible repeat (first | refine blk_drewN ?_ _ | refine blk_drew ?_ | refine blk_alloc ?_ _)); exact BK317.out⟩, ⟨by (with_reducible repeat (first | refine blk_drewN ?_ _ | refine blk_drew ?_ | refine blk_alloc ?_ _)); refine blk_far ?_ NB325_317.out _; (with_reducible repeat (first | refine blk_drewN ?_ _ | refine blk_drew ?_ | refine blk_alloc ?_ _)); exact BK325.out⟩, ⟨by repeat (first | (with_reducible first | exact HB.out | apply below_alloc | apply pw_below_drewN | apply below_drew1 | refine below_set ?_ GE317.out | refine below_set ?_ GE325.out | refine below_set ?_ GE380.out) | exact HB.out)⟩⟩
             ·rw [if_neg c97] at H
              exact absurd H (by simp)
          case rest =>
           clear HC23
           try clear c1
           try clear c2
           try clear p2
           try clear c3
           try clear c4
           try clear c5
           try clear c8
           try clear c9
           try clear c10
           try clear c12
           try clear c19
           try clear c20
           try clear c21
           try clear c32
           try clear c49
           try clear c49b0
           try clear c49b1
           try clear c52
           try clear c55
           try clear c97
           try clear c97b0
           try clear c97b1
           try clear c98
           try clear c105
           try clear c106
           try clear hcz100_0
           try clear hcz100_1
           try clear hcz100_2
           try clear hcz107_0
           try clear hcz109_0
           try clear hcz109_1
           try clear hcz109_2
           try clear hcz112_0
           try clear hcz113_0
           try clear hcz93_0
           try clear hcz94_0
           try clear hcz99_0
           try clear hfz100_0
           try clear hfz100_1
           try clear hfz100_2
           try clear hfz107_0
           try clear hfz109_0
           try clear hfz109_1
           try clear hfz109_2
           try clear hfz112_0
           try clear hfz113_0
           try clear hfz93_0
           try clear hfz94_0
           try clear hfz99_0
           obtain ⟨kq, x5_22, x318000_22, u318000, HA, HJ22, HO_5, HO_318000, BK317, BK325, HB⟩ := hcut
           cases kq with
           | zero => exact absurd HA.out (by simp [haywainlaw22_NetPlays.j2])
           | succ kj22 =>
            have H := HA.out
            clear HA
            simp only [haywainlaw22_NetPlays.j2] at H
            replace H := Option.bind_eq_some_iff.mp H
            obtain ⟨t385, A1140, H⟩ := H
            replace H : ((haywainref22_Same.f kj22 t385 x5_22).bind fun t388 => (if t388 = true then (haywainlaw22_NetPlays.l0 kj22 l1 x5_22 (wrap64 (x6_1 + 1)) x318000_22) else (none))) = some r := H
            have A114 := Aside0.mk A1140
            clear A1140
            replace H := Option.bind_eq_some_iff.mp H
            obtain ⟨t388, A1150, H⟩ := H
            replace H : (if t388 = true then (haywainlaw22_NetPlays.l0 kj22 l1 x5_22 (wrap64 (x6_1 + 1)) x318000_22) else (none)) = some r := H
            have A115 := Aside0.mk A1150
            clear A1150
            by_cases c116 : t388 = true
            ·subst c116
             have H1 : (haywainlaw22_NetPlays.l0 kj22 l1 x5_22 (wrap64 (x6_1 + 1)) x318000_22) = some r := by rw [if_pos rfl] at H; exact H
             clear H
             have H := H1
             clear H1
             have H' := Aside0.mk H
             clear H
             have hnb117 := NB317_325.out
             have hnc117 := NB325_317.out
             have hcz118_0 : wc.cell? ⟨gb317, 0, none⟩ = some (u318000) := (blk_cell BK317.out 0).trans rfl
             have hfz118_0 := blk_frozen BK317.out 0
             obtain ⟨Ao119, co119, eo119⟩ := Kd.V_slice HO_318000.out
             subst eo119
             go_wp2_with (first | ((with_reducible refine gate_callee (f := 12) rfl ?_); refine goesL_ (some 123) rfl rfl Try.func12 (by kernel_rfl) rfl #[.slice Ao119 x318000_22.length co119] rfl (by (try simp only [List.map_toArray, List.map_cons, List.map_nil]); first | done | rfl | (simp only [List.length_drop, List.length_take]; rfl)) ?_; (with_reducible refine (haywainlaw22_As.calls kj22 _ _ x318000_22 t385 _ ?side1 ?side2 A114.out).mono ?_); (case side1 => repeat (first | exact (Kd.V_reads' HO_318000.out).2.2 | (with_reducible refine Kd.C_alloc ?_ _) | (with_reducible refine Kd.C_drewN ?_ _) | (with_reducible refine Kd.C_drew ?_))); (case side2 => exact (Kd.V_reads' HO_318000.out).2.1); rintro e w120 ⟨v386, rfl, ho0, hb⟩; refine ⟨_, rfl, ?_⟩; have n0_ := Aside0.mk (Kd.V_elder' (by (with_reducible repeat (first | apply Kd.V_alloc | apply Kd.V_drewN | apply Kd.V_drew)); exact HO_5.out) (Kd.R_base ho0) hb); have n1_ := Aside0.mk (Kd.V_elder' (by (with_reducible repeat (first | apply Kd.V_alloc | apply Kd.V_drewN | apply Kd.V_drew)); exact HO_318000.out) (Kd.R_base ho0) hb); have n2_ := Aside0.mk (Kd.R_lower (Kd.R_newM (M := fun k_ => (w.heap.size ≤ k_)) ho0 (below_size (by repeat (first | (with_reducible first | exact HB.out | apply below_alloc | apply pw_below_drewN | apply below_drew1 | refine below_set ?_ GE317.out | refine below_set ?_ GE325.out) | exact HB.out))) (fun k_ h_ => h_)) (below_size (by repeat (first | (with_reducible first | exact HB.out | apply below_alloc | apply pw_below_drewN | apply below_drew1 | refine below_set ?_ GE317.out | refine below_set ?_ GE325.out) | exact HB.out)))); have n3_ := Aside0.mk (blk_below (g := gb317) (o := .cells #[.slice Ao119 x318000_22.length co119] 26 (0, 0)) (by (with_reducible repeat (first | refine blk_drewN ?_ _ | refine blk_drew ?_ | refine blk_alloc ?_ _)); exact BK317.out) hb); have n4_ := Aside0.mk (blk_below (g := gb325) (o := .cells #[.int .i64 ((rd_T39 l1 x6_1).f0), .int .i64 ((rd_T39 l1 x6_1).f1), .slice A324_2 ((rd_T39 l1 x6_1).f2).length c324_2] 39 (0, 0)) (by (with_reducible repeat (first | refine blk_drewN ?_ _ | refine blk_drew ?_ | refine blk_alloc ?_ _)); exact BK325.out) hb); have n5_ := Aside0.mk (below_step (by repeat (first | (with_reducible first | exact HB.out | apply below_alloc | apply pw_below_drewN | apply below_drew1 | refine below_set ?_ GE317.out | refine below_set ?_ GE325.out) | exact HB.out)) hb); clear HO_5; clear HO_318000; clear BK317; clear BK325; clear HB; have HO_5 := n0_; have HO_318000 := n1_; have HO387 := n2_; have BK317 := n3_; have BK325 := n4_; have HB := n5_; clear n0_ n1_ n2_ n3_ n4_ n5_; (try clear hb); (try clear hb2); (try clear hk); (try clear hi); (try clear ho0); obtain ⟨Ao121, co121, eo121⟩ := Kd.R_slice HO387.out; subst eo121; obtain ⟨Ao122, co122, eo122⟩ := Kd.V_slice HO_5.out; subst eo122) | ((with_reducible refine gate_callee (f := 19) rfl ?_); refine goesL_ (some 125) rfl rfl Try.func19 (by kernel_rfl) rfl #[.slice Ao121 t385.length co121, .slice Ao122 x5_22.length co122] rfl (by (try simp only [List.map_toArray, List.map_cons, List.map_nil]); first | done | rfl | (simp only [List.length_drop, List.length_take]; rfl)) ?_; (with_reducible refine (haywainref22_Same.calls kj22 _ _ t385 _ _ x5_22 true _ ?side1 ?side2 ?side3 ?side4 A115.out).mono ?_); (case side1 => repeat (first | exact (Kd.R_reads' HO387.out).2.2 | (with_reducible refine Kd.C_alloc ?_ _) | (with_reducible refine Kd.C_drewN ?_ _) | (with_reducible refine Kd.C_drew ?_))); (case side2 => exact (Kd.R_reads' HO387.out).2.1); (case side3 => repeat (first | exact (Kd.V_reads' HO_5.out).2.2 | (with_reducible refine Kd.C_alloc ?_ _) | (with_reducible refine Kd.C_drewN ?_ _) | (with_reducible refine Kd.C_drew ?_))); (case side4 => exact (Kd.V_reads' HO_5.out).2.1); rintro e w' ⟨rfl, ⟨nd, rfl⟩⟩; refine ⟨_, rfl, ?_⟩))
             go_roundg kj22
             case measure => have := HK1.out; have := HJ12.out; have := HJ22.out; omega
             case rel => exact ⟨(x5_22), (wrap64 (x6_1 + 1)), (x318000_22), (.slice Ao119 x318000_22.length co119), (by first | rfl | (simp; done) | (simp [*]; done)), H', ⟨by have := HK1.out; have := HJ12.out; have := HJ22.out; omega⟩, ⟨by (with_reducible repeat (first | apply Kd.V_alloc | apply Kd.V_drewN | apply Kd.V_drew)); exact Kd.V_mono HO_5.out (fun _ hk => ⟨hk.1.1, hk.1.2.1⟩)⟩, ⟨by (with_reducible repeat (first | apply Kd.V_alloc | apply Kd.V_drewN | apply Kd.V_drew)); exact Kd.V_mono HO_318000.out (fun _ hk => ⟨hk.1.1, hk.1.2.1⟩)⟩, ⟨by (with_reducible repeat (first | refine blk_drewN ?_ _ | refine blk_drew ?_ | refine blk_alloc ?_ _)); exact BK317.out⟩, ⟨by repeat (first | (with_reducible first | exact HB.out | apply below_alloc | apply pw_below_drewN | apply below_drew1 | refine below_set ?_ GE317.out | refine below_set ?_ GE325.out) | exact HB.out)⟩⟩
            ·replace c116 := Bool.eq_false_iff.mpr c116
             subst c116
             have H1 : (none) = some r := by rw [if_neg (show ¬ (false = true) by decide)] at H; exact H
             clear H
             have H := H1
             clear H1
             exact absurd H (by simp)
        ·rw [if_neg c17] at H
         exact absurd H (by simp)
       ·rw [if_neg c16] at H
        exact absurd H (by simp)
      ·replace c15 := Bool.eq_false_iff.mpr c15
       subst c15
       have H1 : ((haywainlaw22_knows.f kj12).bind fun t323 => (some t323)) = some r := by rw [if_neg (show ¬ (false = true) by decide)] at H; exact H
       clear H
       have H := H1
       clear H1
       replace H := Option.bind_eq_some_iff.mp H
       obtain ⟨t323, A1230, H⟩ := H
       replace H : (some t323) = some r := H
       have A123 := Aside0.mk A1230
       clear A1230
       obtain rfl := Option.some.inj H
       go_wp2_with (first | ((with_reducible refine gate_callee (f := 9) rfl ?_); refine goesL_ (some 127) rfl rfl Try.func9 (by kernel_rfl) rfl #[] rfl (by (try simp only [List.map_toArray, List.map_cons, List.map_nil]); first | done | rfl | (simp only [List.length_drop, List.length_take]; rfl)) ?_; (with_reducible refine (haywainlaw22_knows.calls kj12  t323 _ A123.out).mono ?_); rintro e w124 ⟨rfl, hb⟩; refine ⟨_, rfl, ?_⟩; have n0_ := Aside0.mk (Kd.V_below (by (with_reducible repeat (first | apply Kd.V_alloc | apply Kd.V_drewN | apply Kd.V_drew)); exact HO_5.out) hb); have n1_ := Aside0.mk (Kd.V_below (by (with_reducible repeat (first | apply Kd.V_alloc | apply Kd.V_drewN | apply Kd.V_drew)); exact HO_318000.out) hb); have n2_ := Aside0.mk (blk_below (g := gb317) (o := .cells #[u318000] 26 (0, 0)) (by (with_reducible repeat (first | refine blk_drewN ?_ _ | refine blk_drew ?_ | refine blk_alloc ?_ _)); exact BK317.out) hb); have n3_ := Aside0.mk (below_step (by repeat (first | (with_reducible first | exact HB.out | apply below_alloc | apply pw_below_drewN | apply below_drew1 | refine below_set ?_ GE317.out) | exact HB.out)) hb); clear HO_5; clear HO_318000; clear BK317; clear HB; have HO_5 := n0_; have HO_318000 := n1_; have BK317 := n2_; have HB := n3_; clear n0_ n1_ n2_ n3_; (try clear hb); (try clear hb2); (try clear hk); (try clear hi)))
       go_ret
       exact ⟨by first | rfl | (simp [errW_none, errW_some] <;> rfl) | (simp [*, errW_none, errW_some] <;> rfl), by repeat (first | (with_reducible first | exact HB.out | apply below_alloc | apply pw_below_drewN | apply below_drew1 | refine below_set ?_ GE317.out) | exact HB.out)⟩

def okT23_NetPlays (x : S23) : Prop := ((Lit.int .i64 x.f0).wf = true) ∧ ((Lit.int .i64 x.f1).wf = true) ∧ ((Lit.int .i64 x.f2).wf = true) ∧ ((Lit.int .i64 x.f3).wf = true) ∧ ((Lit.int .i64 x.f4).wf = true) ∧ ((Lit.int .i64 x.f5).wf = true) ∧ ((Lit.int .i64 x.f6).wf = true) ∧ (x.f7.size ≤ 140737488351232)
def okT26_NetPlays (x : S26) : Prop := ((x.f0.length ≤ maxLen ∧ x.f0.length * 72 ≤ 140737488351232 ∧ ∀ a ∈ x.f0, okT23_NetPlays a))
def okT39_NetPlays (x : S39) : Prop := ((Lit.int .i64 x.f0).wf = true) ∧ ((Lit.int .i64 x.f1).wf = true) ∧ ((x.f2.length ≤ maxLen ∧ x.f2.length * 72 ≤ 140737488351232 ∧ ∀ a ∈ x.f2, okT23_NetPlays a))
/-- THE ONE PURE STATEMENT of haywainlaw22_NetPlays: yours. -/
def haywainlaw22_NetPlays.Pure : Prop := ∀ (l0_0 : List (S23)) (l1 : List (S39)), (l0_0.length ≤ maxLen ∧ l0_0.length * 72 ≤ 140737488351232 ∧ ∀ a ∈ l0_0, okT23_NetPlays a) → (l1.length ≤ maxLen ∧ l1.length * 40 ≤ 140737488351232 ∧ ∀ a ∈ l1, okT39_NetPlays a) → ∃ k, haywainlaw22_NetPlays.f k l0_0 l1 = some true

end Go.Proofs.Ytodjglekfamaaaa.PNet
