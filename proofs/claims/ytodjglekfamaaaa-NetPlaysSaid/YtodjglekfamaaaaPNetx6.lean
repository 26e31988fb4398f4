-- Printed for this claim by a turned copy of the print (wip/tools/patch.py); a text of this session, not of print.sh.
import Derived.Test.YtodjglekfamaaaaPNetx0
import Derived.Test.YtodjglekfamaaaaPNetx5
namespace Go.Proofs.Ytodjglekfamaaaa.PNet
open Go.RowKit Go.Proofs.YtodjglekfamaaaaW.PrintWords Go.Proofs.YtodjglekfamaaaaW.PrintLast Go.Proofs.YtodjglekfamaaaaW.PrintMore
attribute [local go_sem] max2_int min2_int max_two min_two max_three min_three max_four min_four   -- for this text's walks alone
set_option linter.unusedVariables false
set_option linter.unusedSimpArgs false

/-! ### haywainref22_Right: function 14 -/
def haywainref22_Right.l0 : Nat → List (S31) → Int → Option (Bool)
 | 0, _, _ => none
 | k + 1, x0, x3 => if x3 < (x0.length : Int) then (if 0 ≤ x3 then ((haywainref22_Fair.f k ((rd_T31 x0 x3).f0) ((rd_T31 x0 x3).f1) ((rd_T31 x0 x3).f2) ((rd_T31 x0 x3).f3) ((rd_T31 x0 x3).f4) ((rd_T31 x0 x3).f5) ((rd_T31 x0 x3).f6) ((rd_T31 x0 x3).f7)).bind fun t225 => (if t225 = true then (haywainref22_Right.l0 k x0 (wrap64 (x3 + 1))) else (some false))) else (none)) else (some (decide ((x0.length : Int) ≤ 400)))
def haywainref22_Right.f (k : Nat) (l0 : List (S31)) : Option (Bool) := haywainref22_Right.l0 k l0 0
theorem haywainref22_Right.mono_l : ∀ k, (∀ y0 y1, LeO (haywainref22_Right.l0 k y0 y1) (haywainref22_Right.l0 (k + 1) y0 y1))
 | 0 => fun _ _ r h => by simp [haywainref22_Right.l0] at h
 | k + 1 => by
  have ih0 := haywainref22_Right.mono_l k
  ·intro y0 y1
   unfold haywainref22_Right.l0
   repeat' first
   | (with_reducible exact ih0 _ _)
   | (with_reducible exact haywainref22_Fair.mono _ _ _ _ _ _ _ _ _)
   | (with_reducible exact LeO.refl _)
   | (with_reducible exact LeO.none _)
   | (with_reducible refine LeO.ite ?_ ?_)
   | (with_reducible refine LeO.bind ?_ (fun _ => ?_))
   | exact ih0 _ _
   | exact haywainref22_Fair.mono _ _ _ _ _ _ _ _ _
   | exact LeO.none _
   | refine LeO.ite ?_ ?_
   | refine LeO.bind ?_ (fun _ => ?_)
theorem haywainref22_Right.mono : ∀ a0 k, LeO (haywainref22_Right.f k a0) (haywainref22_Right.f (k + 1) a0) := by
 intro a0 k
 have ih0 := haywainref22_Right.mono_l k
 unfold haywainref22_Right.f
 repeat' first
   | (with_reducible exact ih0 _ _)
   | (with_reducible exact haywainref22_Fair.mono _ _ _ _ _ _ _ _ _)
   | (with_reducible exact LeO.refl _)
   | (with_reducible exact LeO.none _)
   | (with_reducible refine LeO.ite ?_ ?_)
   | (with_reducible refine LeO.bind ?_ (fun _ => ?_))
   | exact ih0 _ _
   | exact haywainref22_Fair.mono _ _ _ _ _ _ _ _ _
   | exact LeO.none _
   | refine LeO.ite ?_ ?_
   | refine LeO.bind ?_ (fun _ => ?_)
set_option maxHeartbeats 8000000 in
set_option maxRecDepth 100000 in
theorem haywainref22_Right.calls (k : Nat) (A0 : Option Addr) (c0 : Nat) (l0 : List (S31)) (r : Bool) (w : World) (hr0 : Kd.C k31 w A0 l0.length l0) (hc0 : l0.length ≤ c0) (h : haywainref22_Right.f k l0 = some r) :
  Calls Try.prog 14 #[.slice A0 l0.length c0] w fun e w' => e = .returned (.bool r) ∧ Below w.heap.size w w' := by
 have hu31 := Try.underlying31
 have HR0 := Aside0.mk hr0
 have HC0 := Aside0.mk hc0
 clear hr0 hc0
 have HB := Aside0.mk (Below.refl w.heap.size w)
 have H : (haywainref22_Right.l0 k l0 0) = some r := h
 clear h
 have H' := Aside0.mk H
 clear H
 go_enter Try.func14, Try.ntmps14
 go_wp2
 go_loopg [3] k (fun kq v3 w' => ∃ (x3_1 : Int), v3 = .int .i64 x3_1 ∧ Aside0 (haywainref22_Right.l0 kq l0 x3_1 = some r) ∧ Aside0 (kq ≤ k) ∧ Aside0 (Below w.heap.size w w'))
 case atStart => exact ⟨(0), (by first | rfl | (simp; done) | (simp [*]; done)), H', ⟨Nat.le_refl _⟩, ⟨by repeat (first | (with_reducible first | exact HB.out | apply below_alloc | apply pw_below_drewN | apply below_drew1) | exact HB.out)⟩⟩
 case round =>
  clear H'
  try clear c1
  obtain ⟨x3_1, rfl, HA, HK1, HB⟩ := hrel
  cases gk with
  | zero => exact absurd HA.out (by simp [haywainref22_Right.l0])
  | succ k1 =>
   have H := HA.out
   clear HA
   simp only [haywainref22_Right.l0] at H
   by_cases c2 : x3_1 < (l0.length : Int)
   ·rw [if_pos c2] at H
    have c2b0 : decide (x3_1 < (l0.length : Int)) = true := decide_eq_true c2
    clear c2
    by_cases c3 : 0 ≤ x3_1
    ·rw [if_pos c3] at H
     have c3b0 : decide (0 ≤ x3_1) = true := decide_eq_true c3
     clear c3
     replace H := Option.bind_eq_some_iff.mp H
     obtain ⟨t225, A40, H⟩ := H
     replace H : (if t225 = true then (haywainref22_Right.l0 k1 l0 (wrap64 (x3_1 + 1))) else (some false)) = some r := H
     have A4 := Aside0.mk A40
     clear A40
     by_cases c5 : t225 = true
     ·subst c5
      have H1 : (haywainref22_Right.l0 k1 l0 (wrap64 (x3_1 + 1))) = some r := by rw [if_pos rfl] at H; exact H
      clear H
      have H := H1
      clear H1
      have H' := Aside0.mk H
      clear H
      have p224 : 0 ≤ (x3_1 : Int) := of_decide_eq_true (by first | (with_reducible assumption) | assumption)
      have q224 : x3_1 < (l0.length : Int) := of_decide_eq_true (by first | (with_reducible assumption) | assumption)
      obtain ⟨ad224, e224, hx224_0, hx224_1, hx224_2, hx224_3, hx224_4, hx224_5, hx224_6, hx224_7⟩ := at_T31 HR0.out x3_1 p224 q224
      cases e224
      replace hx224_0 := (HB.out.cell (World.block_lt_of_cell? w _ hx224_0)).trans hx224_0
      replace hx224_1 := (HB.out.cell (World.block_lt_of_cell? w _ hx224_1)).trans hx224_1
      replace hx224_2 := (HB.out.cell (World.block_lt_of_cell? w _ hx224_2)).trans hx224_2
      replace hx224_3 := (HB.out.cell (World.block_lt_of_cell? w _ hx224_3)).trans hx224_3
      replace hx224_4 := (HB.out.cell (World.block_lt_of_cell? w _ hx224_4)).trans hx224_4
      replace hx224_5 := (HB.out.cell (World.block_lt_of_cell? w _ hx224_5)).trans hx224_5
      replace hx224_6 := (HB.out.cell (World.block_lt_of_cell? w _ hx224_6)).trans hx224_6
      replace hx224_7 := (HB.out.cell (World.block_lt_of_cell? w _ hx224_7)).trans hx224_7
      replace p224 := eq_true p224
      replace q224 := eq_true q224
      go_wp2_with (first | ((with_reducible refine gate_callee (f := 11) rfl ?_); refine goesL_ (some 14) rfl rfl Try.func11 (by kernel_rfl) rfl #[.agg #[.int .i64 ((rd_T31 l0 x3_1).f0), .int .i64 ((rd_T31 l0 x3_1).f1), .int .i64 ((rd_T31 l0 x3_1).f2), .int .i64 ((rd_T31 l0 x3_1).f3), .int .i64 ((rd_T31 l0 x3_1).f4), .int .i64 ((rd_T31 l0 x3_1).f5), .int .i64 ((rd_T31 l0 x3_1).f6), .string ((rd_T31 l0 x3_1).f7)]] rfl (by (try simp only [List.map_toArray, List.map_cons, List.map_nil]); first | done | rfl | (simp only [List.length_drop, List.length_take]; rfl)) ?_; (with_reducible refine (haywainref22_Fair.calls k1 ((rd_T31 l0 x3_1).f0) ((rd_T31 l0 x3_1).f1) ((rd_T31 l0 x3_1).f2) ((rd_T31 l0 x3_1).f3) ((rd_T31 l0 x3_1).f4) ((rd_T31 l0 x3_1).f5) ((rd_T31 l0 x3_1).f6) ((rd_T31 l0 x3_1).f7) true _ A4.out).mono ?_); rintro e w6 ⟨rfl, hb⟩; refine ⟨_, rfl, ?_⟩; have n0_ := Aside0.mk (below_step (by repeat (first | (with_reducible first | exact HB.out | apply below_alloc | apply pw_below_drewN | apply below_drew1) | exact HB.out)) hb); clear HB; have HB := n0_; clear n0_; (try clear hb); (try clear hb2); (try clear hk); (try clear hi)))
      go_roundg k1
      case measure => have := HK1.out; omega
      case rel => exact ⟨(wrap64 (x3_1 + 1)), (by first | rfl | (simp; done) | (simp [*]; done)), H', ⟨by have := HK1.out; omega⟩, ⟨by repeat (first | (with_reducible first | exact HB.out | apply below_alloc | apply pw_below_drewN | apply below_drew1) | exact HB.out)⟩⟩
     ·replace c5 := Bool.eq_false_iff.mpr c5
      subst c5
      have H1 : (some false) = some r := by rw [if_neg (show ¬ (false = true) by decide)] at H; exact H
      clear H
      have H := H1
      clear H1
      obtain rfl := Option.some.inj H
      have p224 : 0 ≤ (x3_1 : Int) := of_decide_eq_true (by first | (with_reducible assumption) | assumption)
      have q224 : x3_1 < (l0.length : Int) := of_decide_eq_true (by first | (with_reducible assumption) | assumption)
      obtain ⟨ad224, e224, hx224_0, hx224_1, hx224_2, hx224_3, hx224_4, hx224_5, hx224_6, hx224_7⟩ := at_T31 HR0.out x3_1 p224 q224
      cases e224
      replace hx224_0 := (HB.out.cell (World.block_lt_of_cell? w _ hx224_0)).trans hx224_0
      replace hx224_1 := (HB.out.cell (World.block_lt_of_cell? w _ hx224_1)).trans hx224_1
      replace hx224_2 := (HB.out.cell (World.block_lt_of_cell? w _ hx224_2)).trans hx224_2
      replace hx224_3 := (HB.out.cell (World.block_lt_of_cell? w _ hx224_3)).trans hx224_3
      replace hx224_4 := (HB.out.cell (World.block_lt_of_cell? w _ hx224_4)).trans hx224_4
      replace hx224_5 := (HB.out.cell (World.block_lt_of_cell? w _ hx224_5)).trans hx224_5
      replace hx224_6 := (HB.out.cell (World.block_lt_of_cell? w _ hx224_6)).trans hx224_6
      replace hx224_7 := (HB.out.cell (World.block_lt_of_cell? w _ hx224_7)).trans hx224_7
      replace p224 := eq_true p224
      replace q224 := eq_true q224
      go_wp2_with (first | ((with_reducible refine gate_callee (f := 11) rfl ?_); refine goesL_ (some 14) rfl rfl Try.func11 (by kernel_rfl) rfl #[.agg #[.int .i64 ((rd_T31 l0 x3_1).f0), .int .i64 ((rd_T31 l0 x3_1).f1), .int .i64 ((rd_T31 l0 x3_1).f2), .int .i64 ((rd_T31 l0 x3_1).f3), .int .i64 ((rd_T31 l0 x3_1).f4), .int .i64 ((rd_T31 l0 x3_1).f5), .int .i64 ((rd_T31 l0 x3_1).f6), .string ((rd_T31 l0 x3_1).f7)]] rfl (by (try simp only [List.map_toArray, List.map_cons, List.map_nil]); first | done | rfl | (simp only [List.length_drop, List.length_take]; rfl)) ?_; (with_reducible refine (haywainref22_Fair.calls k1 ((rd_T31 l0 x3_1).f0) ((rd_T31 l0 x3_1).f1) ((rd_T31 l0 x3_1).f2) ((rd_T31 l0 x3_1).f3) ((rd_T31 l0 x3_1).f4) ((rd_T31 l0 x3_1).f5) ((rd_T31 l0 x3_1).f6) ((rd_T31 l0 x3_1).f7) false _ A4.out).mono ?_); rintro e w7 ⟨rfl, hb⟩; refine ⟨_, rfl, ?_⟩; have n0_ := Aside0.mk (below_step (by repeat (first | (with_reducible first | exact HB.out | apply below_alloc | apply pw_below_drewN | apply below_drew1) | exact HB.out)) hb); clear HB; have HB := n0_; clear n0_; (try clear hb); (try clear hb2); (try clear hk); (try clear hi)))
      go_ret
      exact ⟨by first | rfl | (simp [errW_none, errW_some] <;> rfl) | (simp [*, errW_none, errW_some] <;> rfl), by repeat (first | (with_reducible first | exact HB.out | apply below_alloc | apply pw_below_drewN | apply below_drew1) | exact HB.out)⟩
    ·rw [if_neg c3] at H
     exact absurd H (by simp)
   ·rw [if_neg c2] at H
    have c2b0 : decide (x3_1 < (l0.length : Int)) = false := decide_eq_false c2
    clear c2
    obtain rfl := Option.some.inj H
    go_wp2
    go_ret
    exact ⟨by first | rfl | (simp [errW_none, errW_some] <;> rfl) | (simp [*, errW_none, errW_some] <;> rfl), by repeat (first | (with_reducible first | exact HB.out | apply below_alloc | apply pw_below_drewN | apply below_drew1) | exact HB.out)⟩

/-! ### haywainref22_Good: function 22 -/
def haywainref22_Good.f (k : Nat) (l0 : List (S31)) : Option ((List (S31))) := (haywainref22_Right.f k l0).bind fun t226 => (if t226 = true then (some l0) else (some ([] : List (S31))))
theorem haywainref22_Good.mono : ∀ a0 k, LeO (haywainref22_Good.f k a0) (haywainref22_Good.f (k + 1) a0) := by
 intro a0 k
 unfold haywainref22_Good.f
 repeat' first
   | (with_reducible exact haywainref22_Right.mono _ _)
   | (with_reducible exact LeO.refl _)
   | (with_reducible exact LeO.none _)
   | (with_reducible refine LeO.ite ?_ ?_)
   | (with_reducible refine LeO.bind ?_ (fun _ => ?_))
   | exact haywainref22_Right.mono _ _
   | exact LeO.none _
   | refine LeO.ite ?_ ?_
   | refine LeO.bind ?_ (fun _ => ?_)
set_option maxHeartbeats 8000000 in
set_option maxRecDepth 100000 in
theorem haywainref22_Good.calls (k : Nat) (P0_ : Nat → Prop) (A0 : Option Addr) (c0 : Nat) (l0 : List (S31)) (r : List (S31)) (w : World) (hs0 : Kd.V k31 31 w w.heap.size (fun k_ => P0_ k_) (.slice A0 l0.length c0) l0) (h : haywainref22_Good.f k l0 = some r) :
  Calls Try.prog 22 #[.slice A0 l0.length c0] w fun e w' => ∃ v0_ : Value, e = .returned (v0_) ∧ Kd.V k31 31 w' w.heap.size (fun k_ => (P0_ k_ ∨ w.heap.size ≤ k_)) v0_ r ∧ Below w.heap.size w w' := by
 have HO0 := Aside0.mk (show Kd.V k31 31 w w.heap.size (fun k_ => (P0_ k_ ∨ w.heap.size ≤ k_)) (.slice A0 l0.length c0) l0 from Kd.V_mono hs0 (fun k_ hk => .inl hk))
 have HB := Aside0.mk (Below.refl w.heap.size w)
 have H : ((haywainref22_Right.f k l0).bind fun t226 => (if t226 = true then (some l0) else (some ([] : List (S31))))) = some r := h
 clear h
 replace H := Option.bind_eq_some_iff.mp H
 obtain ⟨t226, A20, H⟩ := H
 replace H : (if t226 = true then (some l0) else (some ([] : List (S31)))) = some r := H
 have A2 := Aside0.mk A20
 clear A20
 by_cases c3 : t226 = true
 ·subst c3
  have H1 : (some l0) = some r := by rw [if_pos rfl] at H; exact H
  clear H
  have H := H1
  clear H1
  obtain rfl := Option.some.inj H
  go_enter Try.func22, Try.ntmps22
  go_wp2_with (first | ((with_reducible refine gate_callee (f := 14) rfl ?_); refine goesL_ (some 4) rfl rfl Try.func14 (by kernel_rfl) rfl #[.slice A0 l0.length c0] rfl (by (try simp only [List.map_toArray, List.map_cons, List.map_nil]); first | done | rfl | (simp only [List.length_drop, List.length_take]; rfl)) ?_; (with_reducible refine (haywainref22_Right.calls k _ _ l0 true _ ?side1 ?side2 A2.out).mono ?_); (case side1 => repeat (first | exact (Kd.V_reads' HO0.out).2.2 | (with_reducible refine Kd.C_alloc ?_ _) | (with_reducible refine Kd.C_drewN ?_ _) | (with_reducible refine Kd.C_drew ?_))); (case side2 => exact (Kd.V_reads' HO0.out).2.1); rintro e w4 ⟨rfl, hb⟩; refine ⟨_, rfl, ?_⟩; have n0_ := Aside0.mk (Kd.V_below (by (with_reducible repeat (first | apply Kd.V_alloc | apply Kd.V_drewN | apply Kd.V_drew)); exact HO0.out) hb); have n1_ := Aside0.mk (below_step (by repeat (first | (with_reducible first | exact HB.out | apply below_alloc | apply pw_below_drewN | apply below_drew1) | exact HB.out)) hb); clear HO0; clear HB; have HO0 := n0_; have HB := n1_; clear n0_ n1_; (try clear hb); (try clear hb2); (try clear hk); (try clear hi)))
  go_ret
  exact ⟨_, by first | rfl | (simp [errW_none, errW_some] <;> rfl) | (simp [*, errW_none, errW_some] <;> rfl), by (with_reducible repeat (first | apply Kd.V_alloc | apply Kd.V_drewN | apply Kd.V_drew)); exact HO0.out, by repeat (first | (with_reducible first | exact HB.out | apply below_alloc | apply pw_below_drewN | apply below_drew1) | exact HB.out)⟩
 ·replace c3 := Bool.eq_false_iff.mpr c3
  subst c3
  have H1 : (some ([] : List (S31))) = some r := by rw [if_neg (show ¬ (false = true) by decide)] at H; exact H
  clear H
  have H := H1
  clear H1
  obtain rfl := Option.some.inj H
  go_enter Try.func22, Try.ntmps22
  go_wp2_with (first | ((with_reducible refine gate_callee (f := 14) rfl ?_); refine goesL_ (some 4) rfl rfl Try.func14 (by kernel_rfl) rfl #[.slice A0 l0.length c0] rfl (by (try simp only [List.map_toArray, List.map_cons, List.map_nil]); first | done | rfl | (simp only [List.length_drop, List.length_take]; rfl)) ?_; (with_reducible refine (haywainref22_Right.calls k _ _ l0 false _ ?side1 ?side2 A2.out).mono ?_); (case side1 => repeat (first | exact (Kd.V_reads' HO0.out).2.2 | (with_reducible refine Kd.C_alloc ?_ _) | (with_reducible refine Kd.C_drewN ?_ _) | (with_reducible refine Kd.C_drew ?_))); (case side2 => exact (Kd.V_reads' HO0.out).2.1); rintro e w5 ⟨rfl, hb⟩; refine ⟨_, rfl, ?_⟩; have n0_ := Aside0.mk (Kd.V_below (by (with_reducible repeat (first | apply Kd.V_alloc | apply Kd.V_drewN | apply Kd.V_drew)); exact HO0.out) hb); have n1_ := Aside0.mk (below_step (by repeat (first | (with_reducible first | exact HB.out | apply below_alloc | apply pw_below_drewN | apply below_drew1) | exact HB.out)) hb); clear HO0; clear HB; have HO0 := n0_; have HB := n1_; clear n0_ n1_; (try clear hb); (try clear hb2); (try clear hk); (try clear hi)))
  go_ret
  exact ⟨_, by first | rfl | (simp [errW_none, errW_some] <;> rfl) | (simp [*, errW_none, errW_some] <;> rfl), (Kd.V_nil _ _ _ _ _), by repeat (first | (with_reducible first | exact HB.out | apply below_alloc | apply pw_below_drewN | apply below_drew1) | exact HB.out)⟩

/-! ### haywainref22_Send: function 16 -/
def haywainref22_Send.l0 : Nat → List (S31) → List (S31) → Int → Int → Option ((List (S31)) × Int)
 | 0, _, _, _, _ => none
 | k + 1, x1, x6, x7, x8 => if x8 < (x1.length : Int) then (if 0 ≤ x8 then ((haywainref22_Fair.f k ((rd_T31 x1 x8).f0) ((rd_T31 x1 x8).f1) ((rd_T31 x1 x8).f2) ((rd_T31 x1 x8).f3) ((rd_T31 x1 x8).f4) ((rd_T31 x1 x8).f5) ((rd_T31 x1 x8).f6) ((rd_T31 x1 x8).f7)).bind fun t237 => (if t237 = true then (if (x6.length : Int) < 400 then (if x6.length < 1954687338268 then (haywainref22_Send.l0 k x1 (x6 ++ [(⟨(rd_T31 x1 x8).f0, (rd_T31 x1 x8).f1, (rd_T31 x1 x8).f2, (rd_T31 x1 x8).f3, (rd_T31 x1 x8).f4, (rd_T31 x1 x8).f5, (rd_T31 x1 x8).f6, (rd_T31 x1 x8).f7⟩ : S31)]) (wrap64 (x7 + 1)) (wrap64 (x8 + 1))) else (none)) else (haywainref22_Send.l0 k x1 x6 x7 (wrap64 (x8 + 1)))) else (haywainref22_Send.l0 k x1 x6 x7 (wrap64 (x8 + 1))))) else (none)) else (some (x6, x7))
def haywainref22_Send.f (k : Nat) (l0 : List (S31)) (l1 : List (S31)) : Option ((List (S31)) × Int) := (some (([] : List (S31)) : List (S31))).bind fun y227 => ((haywainref22_Good.f k l0).bind fun t230 => (if y227.length + t230.length < 1954687338268 then (haywainref22_Send.l0 k l1 (y227 ++ t230) 0 0) else (none)))
theorem haywainref22_Send.mono_l : ∀ k, (∀ y0 y1 y2 y3, LeO (haywainref22_Send.l0 k y0 y1 y2 y3) (haywainref22_Send.l0 (k + 1) y0 y1 y2 y3))
 | 0 => fun _ _ _ _ r h => by simp [haywainref22_Send.l0] at h
 | k + 1 => by
  have ih0 := haywainref22_Send.mono_l k
  ·intro y0 y1 y2 y3
   unfold haywainref22_Send.l0
   repeat' first
   | (with_reducible exact ih0 _ _ _ _)
   | (with_reducible exact haywainref22_Fair.mono _ _ _ _ _ _ _ _ _)
   | (with_reducible exact haywainref22_Good.mono _ _)
   | (with_reducible exact LeO.refl _)
   | (with_reducible exact LeO.none _)
   | (with_reducible refine LeO.ite ?_ ?_)
   | (with_reducible refine LeO.bind ?_ (fun _ => ?_))
   | exact ih0 _ _ _ _
   | exact haywainref22_Fair.mono _ _ _ _ _ _ _ _ _
   | exact haywainref22_Good.mono _ _
   | exact LeO.none _
   | refine LeO.ite ?_ ?_
   | refine LeO.bind ?_ (fun _ => ?_)
theorem haywainref22_Send.mono : ∀ a0 a1 k, LeO (haywainref22_Send.f k a0 a1) (haywainref22_Send.f (k + 1) a0 a1) := by
 intro a0 a1 k
 have ih0 := haywainref22_Send.mono_l k
 unfold haywainref22_Send.f
 repeat' first
   | (with_reducible exact ih0 _ _ _ _)
   | (with_reducible exact haywainref22_Fair.mono _ _ _ _ _ _ _ _ _)
   | (with_reducible exact haywainref22_Good.mono _ _)
   | (with_reducible exact LeO.refl _)
   | (with_reducible exact LeO.none _)
   | (with_reducible refine LeO.ite ?_ ?_)
   | (with_reducible refine LeO.bind ?_ (fun _ => ?_))
   | exact ih0 _ _ _ _
   | exact haywainref22_Fair.mono _ _ _ _ _ _ _ _ _
   | exact haywainref22_Good.mono _ _
   | exact LeO.none _
   | refine LeO.ite ?_ ?_
   | refine LeO.bind ?_ (fun _ => ?_)
set_option maxHeartbeats 8000000 in
set_option maxRecDepth 100000 in
theorem haywainref22_Send.calls (k : Nat) (A0 : Option Addr) (c0 : Nat) (l0 : List (S31)) (A1 : Option Addr) (c1 : Nat) (l1 : List (S31)) (r1 : List (S31)) (r2 : Int) (w : World) (hr0 : Kd.C k31 w A0 l0.length l0) (hc0 : l0.length ≤ c0) (hr1 : Kd.C k31 w A1 l1.length l1) (hc1 : l1.length ≤ c1) (h : haywainref22_Send.f k l0 l1 = some (r1, r2)) :
  Calls Try.prog 16 #[.slice A0 l0.length c0, .slice A1 l1.length c1] w fun e w' => ∃ v0_ : Value, e = .returned (.tuple #[v0_, .int .i64 r2]) ∧ Kd.R k31 31 w' w.heap.size (fun _ => True) v0_ r1 ∧ Below w.heap.size w w' := by
 have hu31 := Try.underlying31
 have HR0 := Aside0.mk hr0
 have HC0 := Aside0.mk hc0
 clear hr0 hc0
 have HR1 := Aside0.mk hr1
 have HC1 := Aside0.mk hc1
 clear hr1 hc1
 have HB := Aside0.mk (Below.refl w.heap.size w)
 have H : ((some (([] : List (S31)) : List (S31))).bind fun y227 => ((haywainref22_Good.f k l0).bind fun t230 => (if y227.length + t230.length < 1954687338268 then (haywainref22_Send.l0 k l1 (y227 ++ t230) 0 0) else (none)))) = some (r1, r2) := h
 clear h
 obtain ⟨y227, hy227⟩ : ∃ y_ : List (S31), y_ = (([] : List (S31))) := ⟨_, rfl⟩
 replace H : ((haywainref22_Good.f k l0).bind fun t230 => (if y227.length + t230.length < 1954687338268 then (haywainref22_Send.l0 k l1 (y227 ++ t230) 0 0) else (none))) = some (r1, r2) := by first | (rw [hy227]; with_reducible exact H) | (have H2_ := (Option.bind_some _ _).symm.trans H; rw [hy227]; with_reducible exact H2_) | (have H2_ := (Option.bind_some _ _).symm.trans H; with_reducible exact H2_) | with_reducible exact H | (rw [hy227]; exact H) | exact H
 have Ny227 := Aside0.mk hy227
 clear hy227
 replace H := Option.bind_eq_some_iff.mp H
 obtain ⟨t230, A30, H⟩ := H
 replace H : (if y227.length + t230.length < 1954687338268 then (haywainref22_Send.l0 k l1 (y227 ++ t230) 0 0) else (none)) = some (r1, r2) := H
 have A3 := Aside0.mk A30
 clear A30
 by_cases c4 : y227.length + t230.length < 1954687338268
 ·rw [if_pos c4] at H
  have LMc4 := Aside0.mk c4
  clear c4
  obtain ⟨y233, hy233⟩ : ∃ y_ : List (S31), y_ = (y227 ++ t230) := ⟨_, rfl⟩
  replace H : (haywainref22_Send.l0 k l1 y233 0 0) = some (r1, r2) := by first | (rw [hy233]; with_reducible exact H) | (have H2_ := (Option.bind_some _ _).symm.trans H; rw [hy233]; with_reducible exact H2_) | (have H2_ := (Option.bind_some _ _).symm.trans H; with_reducible exact H2_) | with_reducible exact H | (rw [hy233]; exact H) | exact H
  have Ny233 := Aside0.mk hy233
  clear hy233
  have H' := Aside0.mk H
  clear H
  go_enter Try.func16, Try.ntmps16
  go_wp2_with (first | ((with_reducible refine gate_dst (N := 9) rfl ?_); (try (refine gate_guard (by rfl) ?_; dsimp only)); refine Kd.R_lit k31 _ 31 ?hg (N := 9) ?hd (xs := ([] : List (S31))) (inner := []) (ok := fun _ => True) (okp := fun _ => True) ?hr ?hp (fun _ hk => hk) trivial (Below.refl _ _) (Nat.le_refl _) (by simp) ?_; (case hd => rfl); (case hg => rfl); (case hr => first | (go_simp; done) | (go_simp; rfl)); (case hp => exact (Reps.none _ _)); intro v228 w5 ho6 hb hg_ hnew_; clear hg_ hnew_; (first | rw [← Ny227.out] at ho6 | (simp only [Int.reduceToNat] at ho6; rw [← Ny227.out] at ho6)); have n0_ := Aside0.mk (Kd.R_lower ho6 (below_size (by repeat (first | (with_reducible first | exact HB.out | apply below_alloc | apply pw_below_drewN | apply below_drew1) | exact HB.out)))); have n1_ := Aside0.mk (below_step (by repeat (first | (with_reducible first | exact HB.out | apply below_alloc | apply pw_below_drewN | apply below_drew1) | exact HB.out)) hb); clear HB; have HO229 := n0_; have HB := n1_; clear n0_ n1_; clear hb ho6) | ((with_reducible refine gate_callee (f := 22) rfl ?_); refine goesL_ (some 11) rfl rfl Try.func22 (by kernel_rfl) rfl #[.slice A0 l0.length c0] rfl (by (try simp only [List.map_toArray, List.map_cons, List.map_nil]); first | done | rfl | (simp only [List.length_drop, List.length_take]; rfl)) ?_; (with_reducible refine (haywainref22_Good.calls k (fun k_ => k_ < w.heap.size) _ _ l0 t230 _ ?side1 A3.out).mono ?_); (case side1 => exact Kd.V_mk HC0.out (Kd.F_below (Kd.C_F k31_heap HR0.out) (by repeat (first | (with_reducible first | exact HB.out | apply below_alloc | apply pw_below_drewN | apply below_drew1) | exact HB.out)))); rintro e w7 ⟨v231, rfl, ho0, hb⟩; refine ⟨_, rfl, ?_⟩; have n0_ := Aside0.mk (Kd.R_below (by (with_reducible repeat (first | apply Kd.R_alloc | apply Kd.R_drewN | apply Kd.R_drew)); exact HO229.out) hb); have n1_ := Aside0.mk (Kd.V_lower (Kd.V_mono (ok' := fun k_ => some k_ ≠ (v228 : Value).ownBlock) ho0 (fun k_ hk_ => Or.elim hk_ (fun hs_ => fun e_ => Nat.not_le.2 hs_ (Kd.R_base HO229.out k_ e_.symm)) (fun hn_ => (Kd.fresh' (Kd.R_lt (by (with_reducible repeat (first | apply Kd.R_alloc | apply Kd.R_drewN | apply Kd.R_drew)); exact HO229.out)) k_ hn_)))) (below_size (by repeat (first | (with_reducible first | exact HB.out | apply below_alloc | apply pw_below_drewN | apply below_drew1) | exact HB.out)))); have n2_ := Aside0.mk (below_step (by repeat (first | (with_reducible first | exact HB.out | apply below_alloc | apply pw_below_drewN | apply below_drew1) | exact HB.out)) hb); clear HO229; clear HB; have HO229 := n0_; have HO232 := n1_; have HB := n2_; clear n0_ n1_ n2_; (try clear hb); (try clear hb2); (try clear hk); (try clear hi); (try clear ho0); obtain ⟨Ao9, co9, eo9⟩ := Kd.V_slice HO232.out; subst eo9) | ((with_reducible refine gate_builtin (b := .append) (xs := #[.tmp 9, .tmp 11]) rfl ?_); (try (refine gate_guard (by rfl) ?_; dsimp only)); at_builtin; refine Kd.R_append_rows k31 (w0 := w) w.heap.size rfl (.tmp 9) (.tmp 11) 32 31 (.agg #[(.int .i64 0), (.int .i64 0), (.int .i64 0), (.int .i64 0), (.int .i64 0), (.int .i64 0), (.int .i64 0), (.string ⟨#[]⟩)]) 72 rfl Try.underlying32 info31 rfl (by decide) (by omega) v228 y227 t230 _ _ _ (fun _ => True) (fun _ => False) rfl rfl ?aO ?aR (fun _ _ h => h) (fun _ h => h.elim) ?aF ?aB ?aS ?aL ?_; (case aR => repeat (first | exact (Kd.V_reads' HO232.out).2.2 | (with_reducible refine Kd.C_alloc ?_ _) | (with_reducible refine Kd.C_drewN ?_ _) | (with_reducible refine Kd.C_drew ?_))); (case aB => exact (by repeat (first | (with_reducible first | exact HB.out | apply below_alloc | apply pw_below_drewN | apply below_drew1) | exact HB.out))); (case aF => exact (fun _ _ => trivial)); (case aO => exact (by (with_reducible repeat (first | apply Kd.R_alloc | apply Kd.R_drewN | apply Kd.R_drew)); exact HO229.out)); (case aS => exact (below_size (by repeat (first | (with_reducible first | exact HB.out | apply below_alloc | apply pw_below_drewN | apply below_drew1) | exact HB.out)))); (case aL => have := LMc4.out; omega); intro v234 w8 ho hb hg hat; rw [← Ny233.out] at ho; have n0_ := Aside0.mk (Kd.V_afterv (ok := (fun _ => True)) (by (with_reducible repeat (first | apply Kd.V_alloc | apply Kd.V_drewN | apply Kd.V_drew)); exact Kd.V_mono HO232.out (fun _ hk => ⟨trivial, hk⟩)) hg hat); have n1_ := Aside0.mk (hb); have n2_ := Aside0.mk (ho); clear HO232; clear HB; clear HO229; have HO232 := n0_; have HB := n1_; have HO235 := n2_; clear n0_ n1_ n2_; clear ho hb hg hat))
  go_loopg [6, 7, 8] k (fun kq v6 v7 v8 w' => ∃ (x6_1 : List (S31)) (x7_1 : Int) (x8_1 : Int), v7 = .int .i64 x7_1 ∧ v8 = .int .i64 x8_1 ∧ Aside0 (haywainref22_Send.l0 kq l1 x6_1 x7_1 x8_1 = some (r1, r2)) ∧ Aside0 (kq ≤ k) ∧ Aside0 (Kd.R k31 31 w' w.heap.size (fun _ => True) v6 x6_1) ∧ Aside0 (Below w.heap.size w w'))
  case atStart => exact ⟨(y233), (0), (0), (by first | rfl | (simp; done) | (simp [*]; done)), (by first | rfl | (simp; done) | (simp [*]; done)), H', ⟨Nat.le_refl _⟩, ⟨by (with_reducible repeat (first | apply Kd.R_alloc | apply Kd.R_drewN | apply Kd.R_drew)); exact HO235.out⟩, ⟨by repeat (first | (with_reducible first | exact HB.out | apply below_alloc | apply pw_below_drewN | apply below_drew1) | exact HB.out)⟩⟩
  case round =>
   clear H'
   try clear c1
   try clear c2
   try clear p2
   try clear c4
   obtain ⟨x6_1, x7_1, x8_1, rfl, rfl, HA, HK1, HO_6, HB⟩ := hrel
   cases gk with
   | zero => exact absurd HA.out (by simp [haywainref22_Send.l0])
   | succ k1 =>
    have H := HA.out
    clear HA
    simp only [haywainref22_Send.l0] at H
    by_cases c10 : x8_1 < (l1.length : Int)
    ·rw [if_pos c10] at H
     have c10b0 : decide (x8_1 < (l1.length : Int)) = true := decide_eq_true c10
     clear c10
     by_cases c11 : 0 ≤ x8_1
     ·rw [if_pos c11] at H
      have c11b0 : decide (0 ≤ x8_1) = true := decide_eq_true c11
      clear c11
      replace H := Option.bind_eq_some_iff.mp H
      obtain ⟨t237, A120, H⟩ := H
      replace H : (if t237 = true then (if (x6_1.length : Int) < 400 then (if x6_1.length < 1954687338268 then (haywainref22_Send.l0 k1 l1 (x6_1 ++ [(⟨(rd_T31 l1 x8_1).f0, (rd_T31 l1 x8_1).f1, (rd_T31 l1 x8_1).f2, (rd_T31 l1 x8_1).f3, (rd_T31 l1 x8_1).f4, (rd_T31 l1 x8_1).f5, (rd_T31 l1 x8_1).f6, (rd_T31 l1 x8_1).f7⟩ : S31)]) (wrap64 (x7_1 + 1)) (wrap64 (x8_1 + 1))) else (none)) else (haywainref22_Send.l0 k1 l1 x6_1 x7_1 (wrap64 (x8_1 + 1)))) else (haywainref22_Send.l0 k1 l1 x6_1 x7_1 (wrap64 (x8_1 + 1)))) = some (r1, r2) := H
      have A12 := Aside0.mk A120
      clear A120
      by_cases c13 : t237 = true
      ·subst c13
       have H1 : (if (x6_1.length : Int) < 400 then (if x6_1.length < 1954687338268 then (haywainref22_Send.l0 k1 l1 (x6_1 ++ [(⟨(rd_T31 l1 x8_1).f0, (rd_T31 l1 x8_1).f1, (rd_T31 l1 x8_1).f2, (rd_T31 l1 x8_1).f3, (rd_T31 l1 x8_1).f4, (rd_T31 l1 x8_1).f5, (rd_T31 l1 x8_1).f6, (rd_T31 l1 x8_1).f7⟩ : S31)]) (wrap64 (x7_1 + 1)) (wrap64 (x8_1 + 1))) else (none)) else (haywainref22_Send.l0 k1 l1 x6_1 x7_1 (wrap64 (x8_1 + 1)))) = some (r1, r2) := by rw [if_pos rfl] at H; exact H
       clear H
       have H := H1
       clear H1
       by_cases c14 : (x6_1.length : Int) < 400
       ·rw [if_pos c14] at H
        have c14b0 : decide ((x6_1.length : Int) < 400) = true := decide_eq_true c14
        have c14b1 : decide (x6_1.length < 400) = true := decide_eq_true (by omega)
        clear c14
        by_cases c15 : x6_1.length < 1954687338268
        ·rw [if_pos c15] at H
         have LMc15 := Aside0.mk c15
         clear c15
         obtain ⟨y239, hy239⟩ : ∃ y_ : List (S31), y_ = (x6_1 ++ [(⟨(rd_T31 l1 x8_1).f0, (rd_T31 l1 x8_1).f1, (rd_T31 l1 x8_1).f2, (rd_T31 l1 x8_1).f3, (rd_T31 l1 x8_1).f4, (rd_T31 l1 x8_1).f5, (rd_T31 l1 x8_1).f6, (rd_T31 l1 x8_1).f7⟩ : S31)]) := ⟨_, rfl⟩
         replace H : (haywainref22_Send.l0 k1 l1 y239 (wrap64 (x7_1 + 1)) (wrap64 (x8_1 + 1))) = some (r1, r2) := by first | (rw [hy239]; with_reducible exact H) | (have H2_ := (Option.bind_some _ _).symm.trans H; rw [hy239]; with_reducible exact H2_) | (have H2_ := (Option.bind_some _ _).symm.trans H; with_reducible exact H2_) | with_reducible exact H | (rw [hy239]; exact H) | exact H
         have Ny239 := Aside0.mk hy239
         clear hy239
         have H' := Aside0.mk H
         clear H
         have p236 : 0 ≤ (x8_1 : Int) := of_decide_eq_true (by first | (with_reducible assumption) | assumption)
         have q236 : x8_1 < (l1.length : Int) := of_decide_eq_true (by first | (with_reducible assumption) | assumption)
         obtain ⟨ad236, e236, hx236_0, hx236_1, hx236_2, hx236_3, hx236_4, hx236_5, hx236_6, hx236_7⟩ := at_T31 HR1.out x8_1 p236 q236
         cases e236
         replace hx236_0 := (HB.out.cell (World.block_lt_of_cell? w _ hx236_0)).trans hx236_0
         replace hx236_1 := (HB.out.cell (World.block_lt_of_cell? w _ hx236_1)).trans hx236_1
         replace hx236_2 := (HB.out.cell (World.block_lt_of_cell? w _ hx236_2)).trans hx236_2
         replace hx236_3 := (HB.out.cell (World.block_lt_of_cell? w _ hx236_3)).trans hx236_3
         replace hx236_4 := (HB.out.cell (World.block_lt_of_cell? w _ hx236_4)).trans hx236_4
         replace hx236_5 := (HB.out.cell (World.block_lt_of_cell? w _ hx236_5)).trans hx236_5
         replace hx236_6 := (HB.out.cell (World.block_lt_of_cell? w _ hx236_6)).trans hx236_6
         replace hx236_7 := (HB.out.cell (World.block_lt_of_cell? w _ hx236_7)).trans hx236_7
         replace p236 := eq_true p236
         replace q236 := eq_true q236
         go_wp2_with (first | ((with_reducible refine gate_callee (f := 11) rfl ?_); refine goesL_ (some 23) rfl rfl Try.func11 (by kernel_rfl) rfl #[.agg #[.int .i64 ((rd_T31 l1 x8_1).f0), .int .i64 ((rd_T31 l1 x8_1).f1), .int .i64 ((rd_T31 l1 x8_1).f2), .int .i64 ((rd_T31 l1 x8_1).f3), .int .i64 ((rd_T31 l1 x8_1).f4), .int .i64 ((rd_T31 l1 x8_1).f5), .int .i64 ((rd_T31 l1 x8_1).f6), .string ((rd_T31 l1 x8_1).f7)]] rfl (by (try simp only [List.map_toArray, List.map_cons, List.map_nil]); first | done | rfl | (simp only [List.length_drop, List.length_take]; rfl)) ?_; (with_reducible refine (haywainref22_Fair.calls k1 ((rd_T31 l1 x8_1).f0) ((rd_T31 l1 x8_1).f1) ((rd_T31 l1 x8_1).f2) ((rd_T31 l1 x8_1).f3) ((rd_T31 l1 x8_1).f4) ((rd_T31 l1 x8_1).f5) ((rd_T31 l1 x8_1).f6) ((rd_T31 l1 x8_1).f7) true _ A12.out).mono ?_); rintro e w16 ⟨rfl, hb⟩; refine ⟨_, rfl, ?_⟩; have n0_ := Aside0.mk (Kd.R_below (by (with_reducible repeat (first | apply Kd.R_alloc | apply Kd.R_drewN | apply Kd.R_drew)); exact HO_6.out) hb); have n1_ := Aside0.mk (below_step (by repeat (first | (with_reducible first | exact HB.out | apply below_alloc | apply pw_below_drewN | apply below_drew1) | exact HB.out)) hb); clear HO_6; clear HB; have HO_6 := n0_; have HB := n1_; clear n0_ n1_; (try clear hb); (try clear hb2); (try clear hk); (try clear hi); obtain ⟨Ao17, co17, eo17⟩ := Kd.R_slice HO_6.out; subst eo17; have p238 : 0 ≤ (x8_1 : Int) := of_decide_eq_true (by first | (with_reducible assumption) | assumption); have q238 : x8_1 < (l1.length : Int) := of_decide_eq_true (by first | (with_reducible assumption) | assumption); obtain ⟨ad238, e238, hx238_0, hx238_1, hx238_2, hx238_3, hx238_4, hx238_5, hx238_6, hx238_7⟩ := at_T31 HR1.out x8_1 p238 q238; obtain rfl : ad236 = ad238 := (by injection e238); replace hx238_0 := (HB.out.cell (World.block_lt_of_cell? w _ hx238_0)).trans hx238_0; replace hx238_1 := (HB.out.cell (World.block_lt_of_cell? w _ hx238_1)).trans hx238_1; replace hx238_2 := (HB.out.cell (World.block_lt_of_cell? w _ hx238_2)).trans hx238_2; replace hx238_3 := (HB.out.cell (World.block_lt_of_cell? w _ hx238_3)).trans hx238_3; replace hx238_4 := (HB.out.cell (World.block_lt_of_cell? w _ hx238_4)).trans hx238_4; replace hx238_5 := (HB.out.cell (World.block_lt_of_cell? w _ hx238_5)).trans hx238_5; replace hx238_6 := (HB.out.cell (World.block_lt_of_cell? w _ hx238_6)).trans hx238_6; replace hx238_7 := (HB.out.cell (World.block_lt_of_cell? w _ hx238_7)).trans hx238_7; replace p238 := eq_true p238; replace q238 := eq_true q238) | ((with_reducible refine gate_builtin (b := .append) (xs := #[.tmp 29, .tmp 34]) rfl ?_); (try (refine gate_guard (by rfl) ?_; dsimp only)); at_builtin; refine Kd.R_append k31 (w0 := w) w.heap.size rfl (.tmp 29) (.tmp 34) 32 31 (.agg #[(.int .i64 0), (.int .i64 0), (.int .i64 0), (.int .i64 0), (.int .i64 0), (.int .i64 0), (.int .i64 0), (.string ⟨#[]⟩)]) 72 rfl Try.underlying32 info31 rfl (by decide) (by omega) (.slice Ao17 x6_1.length co17) x6_1 (⟨(rd_T31 l1 x8_1).f0, (rd_T31 l1 x8_1).f1, (rd_T31 l1 x8_1).f2, (rd_T31 l1 x8_1).f3, (rd_T31 l1 x8_1).f4, (rd_T31 l1 x8_1).f5, (rd_T31 l1 x8_1).f6, (rd_T31 l1 x8_1).f7⟩ : S31) [.int .i64 ((rd_T31 l1 x8_1).f0), .int .i64 ((rd_T31 l1 x8_1).f1), .int .i64 ((rd_T31 l1 x8_1).f2), .int .i64 ((rd_T31 l1 x8_1).f3), .int .i64 ((rd_T31 l1 x8_1).f4), .int .i64 ((rd_T31 l1 x8_1).f5), .int .i64 ((rd_T31 l1 x8_1).f6), .string ((rd_T31 l1 x8_1).f7)] (fun _ => True) (fun _ => False) rfl rfl ?aP (fun _ hk => hk.elim) ?aF ?aO ?aB ?aS ?aL ?_; (case aP => exact k31_mkM _ _ _ (⟨(rd_T31 l1 x8_1).f0, (rd_T31 l1 x8_1).f1, (rd_T31 l1 x8_1).f2, (rd_T31 l1 x8_1).f3, (rd_T31 l1 x8_1).f4, (rd_T31 l1 x8_1).f5, (rd_T31 l1 x8_1).f6, (rd_T31 l1 x8_1).f7⟩ : S31)); (case aB => exact (by repeat (first | (with_reducible first | exact HB.out | apply below_alloc | apply pw_below_drewN | apply below_drew1) | exact HB.out))); (case aF => exact (fun _ _ => trivial)); (case aO => exact (by (with_reducible repeat (first | apply Kd.R_alloc | apply Kd.R_drewN | apply Kd.R_drew)); exact HO_6.out)); (case aS => exact (below_size (by repeat (first | (with_reducible first | exact HB.out | apply below_alloc | apply pw_below_drewN | apply below_drew1) | exact HB.out)))); (case aL => have := LMc15.out; omega); intro v240 w18 ho hb hg hat; rw [← Ny239.out] at ho; have n0_ := Aside0.mk (hb); have n1_ := Aside0.mk (ho); clear HB; clear HO_6; have HB := n0_; have HO241 := n1_; clear n0_ n1_; clear ho hb hg hat))
         go_roundg k1
         case measure => have := HK1.out; omega
         case rel => exact ⟨(y239), (wrap64 (x7_1 + 1)), (wrap64 (x8_1 + 1)), (by first | rfl | (simp; done) | (simp [*]; done)), (by first | rfl | (simp; done) | (simp [*]; done)), H', ⟨by have := HK1.out; omega⟩, ⟨by (with_reducible repeat (first | apply Kd.R_alloc | apply Kd.R_drewN | apply Kd.R_drew)); exact HO241.out⟩, ⟨by repeat (first | (with_reducible first | exact HB.out | apply below_alloc | apply pw_below_drewN | apply below_drew1) | exact HB.out)⟩⟩
        ·rw [if_neg c15] at H
         exact absurd H (by simp)
       ·rw [if_neg c14] at H
        have c14b0 : decide ((x6_1.length : Int) < 400) = false := decide_eq_false c14
        have c14b1 : decide (x6_1.length < 400) = false := decide_eq_false (by omega)
        clear c14
        have H' := Aside0.mk H
        clear H
        have p236 : 0 ≤ (x8_1 : Int) := of_decide_eq_true (by first | (with_reducible assumption) | assumption)
        have q236 : x8_1 < (l1.length : Int) := of_decide_eq_true (by first | (with_reducible assumption) | assumption)
        obtain ⟨ad236, e236, hx236_0, hx236_1, hx236_2, hx236_3, hx236_4, hx236_5, hx236_6, hx236_7⟩ := at_T31 HR1.out x8_1 p236 q236
        cases e236
        replace hx236_0 := (HB.out.cell (World.block_lt_of_cell? w _ hx236_0)).trans hx236_0
        replace hx236_1 := (HB.out.cell (World.block_lt_of_cell? w _ hx236_1)).trans hx236_1
        replace hx236_2 := (HB.out.cell (World.block_lt_of_cell? w _ hx236_2)).trans hx236_2
        replace hx236_3 := (HB.out.cell (World.block_lt_of_cell? w _ hx236_3)).trans hx236_3
        replace hx236_4 := (HB.out.cell (World.block_lt_of_cell? w _ hx236_4)).trans hx236_4
        replace hx236_5 := (HB.out.cell (World.block_lt_of_cell? w _ hx236_5)).trans hx236_5
        replace hx236_6 := (HB.out.cell (World.block_lt_of_cell? w _ hx236_6)).trans hx236_6
        replace hx236_7 := (HB.out.cell (World.block_lt_of_cell? w _ hx236_7)).trans hx236_7
        replace p236 := eq_true p236
        replace q236 := eq_true q236
        go_wp2_with (first | ((with_reducible refine gate_callee (f := 11) rfl ?_); refine goesL_ (some 23) rfl rfl Try.func11 (by kernel_rfl) rfl #[.agg #[.int .i64 ((rd_T31 l1 x8_1).f0), .int .i64 ((rd_T31 l1 x8_1).f1), .int .i64 ((rd_T31 l1 x8_1).f2), .int .i64 ((rd_T31 l1 x8_1).f3), .int .i64 ((rd_T31 l1 x8_1).f4), .int .i64 ((rd_T31 l1 x8_1).f5), .int .i64 ((rd_T31 l1 x8_1).f6), .string ((rd_T31 l1 x8_1).f7)]] rfl (by (try simp only [List.map_toArray, List.map_cons, List.map_nil]); first | done | rfl | (simp only [List.length_drop, List.length_take]; rfl)) ?_; (with_reducible refine (haywainref22_Fair.calls k1 ((rd_T31 l1 x8_1).f0) ((rd_T31 l1 x8_1).f1) ((rd_T31 l1 x8_1).f2) ((rd_T31 l1 x8_1).f3) ((rd_T31 l1 x8_1).f4) ((rd_T31 l1 x8_1).f5) ((rd_T31 l1 x8_1).f6) ((rd_T31 l1 x8_1).f7) true _ A12.out).mono ?_); rintro e w19 ⟨rfl, hb⟩; refine ⟨_, rfl, ?_⟩; have n0_ := Aside0.mk (Kd.R_below (by (with_reducible repeat (first | apply Kd.R_alloc | apply Kd.R_drewN | apply Kd.R_drew)); exact HO_6.out) hb); have n1_ := Aside0.mk (below_step (by repeat (first | (with_reducible first | exact HB.out | apply below_alloc | apply pw_below_drewN | apply below_drew1) | exact HB.out)) hb); clear HO_6; clear HB; have HO_6 := n0_; have HB := n1_; clear n0_ n1_; (try clear hb); (try clear hb2); (try clear hk); (try clear hi); obtain ⟨Ao20, co20, eo20⟩ := Kd.R_slice HO_6.out; subst eo20))
        go_roundg k1
        case measure => have := HK1.out; omega
        case rel => exact ⟨(x6_1), (x7_1), (wrap64 (x8_1 + 1)), (by first | rfl | (simp; done) | (simp [*]; done)), (by first | rfl | (simp; done) | (simp [*]; done)), H', ⟨by have := HK1.out; omega⟩, ⟨by (with_reducible repeat (first | apply Kd.R_alloc | apply Kd.R_drewN | apply Kd.R_drew)); exact HO_6.out⟩, ⟨by repeat (first | (with_reducible first | exact HB.out | apply below_alloc | apply pw_below_drewN | apply below_drew1) | exact HB.out)⟩⟩
      ·replace c13 := Bool.eq_false_iff.mpr c13
       subst c13
       have H1 : (haywainref22_Send.l0 k1 l1 x6_1 x7_1 (wrap64 (x8_1 + 1))) = some (r1, r2) := by rw [if_neg (show ¬ (false = true) by decide)] at H; exact H
       clear H
       have H := H1
       clear H1
       have H' := Aside0.mk H
       clear H
       have p236 : 0 ≤ (x8_1 : Int) := of_decide_eq_true (by first | (with_reducible assumption) | assumption)
       have q236 : x8_1 < (l1.length : Int) := of_decide_eq_true (by first | (with_reducible assumption) | assumption)
       obtain ⟨ad236, e236, hx236_0, hx236_1, hx236_2, hx236_3, hx236_4, hx236_5, hx236_6, hx236_7⟩ := at_T31 HR1.out x8_1 p236 q236
       cases e236
       replace hx236_0 := (HB.out.cell (World.block_lt_of_cell? w _ hx236_0)).trans hx236_0
       replace hx236_1 := (HB.out.cell (World.block_lt_of_cell? w _ hx236_1)).trans hx236_1
       replace hx236_2 := (HB.out.cell (World.block_lt_of_cell? w _ hx236_2)).trans hx236_2
       replace hx236_3 := (HB.out.cell (World.block_lt_of_cell? w _ hx236_3)).trans hx236_3
       replace hx236_4 := (HB.out.cell (World.block_lt_of_cell? w _ hx236_4)).trans hx236_4
       replace hx236_5 := (HB.out.cell (World.block_lt_of_cell? w _ hx236_5)).trans hx236_5
       replace hx236_6 := (HB.out.cell (World.block_lt_of_cell? w _ hx236_6)).trans hx236_6
       replace hx236_7 := (HB.out.cell (World.block_lt_of_cell? w _ hx236_7)).trans hx236_7
       replace p236 := eq_true p236
       replace q236 := eq_true q236
       go_wp2_with (first | ((with_reducible refine gate_callee (f := 11) rfl ?_); refine goesL_ (some 23) rfl rfl Try.func11 (by kernel_rfl) rfl #[.agg #[.int .i64 ((rd_T31 l1 x8_1).f0), .int .i64 ((rd_T31 l1 x8_1).f1), .int .i64 ((rd_T31 l1 x8_1).f2), .int .i64 ((rd_T31 l1 x8_1).f3), .int .i64 ((rd_T31 l1 x8_1).f4), .int .i64 ((rd_T31 l1 x8_1).f5), .int .i64 ((rd_T31 l1 x8_1).f6), .string ((rd_T31 l1 x8_1).f7)]] rfl (by (try simp only [List.map_toArray, List.map_cons, List.map_nil]); first | done | rfl | (simp only [List.length_drop, List.length_take]; rfl)) ?_; (with_reducible refine (haywainref22_Fair.calls k1 ((rd_T31 l1 x8_1).f0) ((rd_T31 l1 x8_1).f1) ((rd_T31 l1 x8_1).f2) ((rd_T31 l1 x8_1).f3) ((rd_T31 l1 x8_1).f4) ((rd_T31 l1 x8_1).f5) ((rd_T31 l1 x8_1).f6) ((rd_T31 l1 x8_1).f7) false _ A12.out).mono ?_); rintro e w21 ⟨rfl, hb⟩; refine ⟨_, rfl, ?_⟩; have n0_ := Aside0.mk (Kd.R_below (by (with_reducible repeat (first | apply Kd.R_alloc | apply Kd.R_drewN | apply Kd.R_drew)); exact HO_6.out) hb); have n1_ := Aside0.mk (below_step (by repeat (first | (with_reducible first | exact HB.out | apply below_alloc | apply pw_below_drewN | apply below_drew1) | exact HB.out)) hb); clear HO_6; clear HB; have HO_6 := n0_; have HB := n1_; clear n0_ n1_; (try clear hb); (try clear hb2); (try clear hk); (try clear hi)))
       go_roundg k1
       case measure => have := HK1.out; omega
       case rel => exact ⟨(x6_1), (x7_1), (wrap64 (x8_1 + 1)), (by first | rfl | (simp; done) | (simp [*]; done)), (by first | rfl | (simp; done) | (simp [*]; done)), H', ⟨by have := HK1.out; omega⟩, ⟨by (with_reducible repeat (first | apply Kd.R_alloc | apply Kd.R_drewN | apply Kd.R_drew)); exact HO_6.out⟩, ⟨by repeat (first | (with_reducible first | exact HB.out | apply below_alloc | apply pw_below_drewN | apply below_drew1) | exact HB.out)⟩⟩
     ·rw [if_neg c11] at H
      exact absurd H (by simp)
    ·rw [if_neg c10] at H
     have c10b0 : decide (x8_1 < (l1.length : Int)) = false := decide_eq_false c10
     clear c10
     simp only [Option.some.injEq, Prod.mk.injEq] at H
     obtain ⟨rfl, rfl⟩ := H
     go_wp2
     go_ret2
     exact ⟨_, by first | rfl | (simp [errW_none, errW_some] <;> rfl) | (simp [*, errW_none, errW_some] <;> rfl), by (with_reducible repeat (first | apply Kd.R_alloc | apply Kd.R_drewN | apply Kd.R_drew)); exact HO_6.out, by repeat (first | (with_reducible first | exact HB.out | apply below_alloc | apply pw_below_drewN | apply below_drew1) | exact HB.out)⟩
 ·rw [if_neg c4] at H
  exact absurd H (by simp)

/-! ### haywainref22_Give: function 18 -/
mutual
def haywainref22_Give.j0 : Nat → List (S31) → Int → Bool → Option ((List (S31)) × Int × Int × Int × Int × Int × Int × Int × ByteArray × Int)
 | 0, _, _, _ => none
 | k + 1, x0, x1, x18 => if x18 = true then (some (x0, 0, 0, 0, 0, 0, 0, 0, (⟨#[]⟩ : ByteArray), 4)) else (haywainref22_Give.l0 k x0 x1 ([] : List (S31)) 0)
def haywainref22_Give.l0 : Nat → List (S31) → Int → List (S31) → Int → Option ((List (S31)) × Int × Int × Int × Int × Int × Int × Int × ByteArray × Int)
 | 0, _, _, _, _ => none
 | k + 1, x0, x1, x7, x8 => if x8 < (x0.length : Int) then (if x8 = x1 then (haywainref22_Give.l0 k x0 x1 x7 (wrap64 (x8 + 1))) else (if 0 ≤ x8 then (if x7.length < 1954687338268 then (haywainref22_Give.l0 k x0 x1 (x7 ++ [(⟨(rd_T31 x0 x8).f0, (rd_T31 x0 x8).f1, (rd_T31 x0 x8).f2, (rd_T31 x0 x8).f3, (rd_T31 x0 x8).f4, (rd_T31 x0 x8).f5, (rd_T31 x0 x8).f6, (rd_T31 x0 x8).f7⟩ : S31)]) (wrap64 (x8 + 1))) else (none)) else (none))) else (if 0 ≤ x1 then (if x1 < (x0.length : Int) then (some (x7, (rd_T31 x0 x1).f0, (rd_T31 x0 x1).f1, (rd_T31 x0 x1).f2, (rd_T31 x0 x1).f3, (rd_T31 x0 x1).f4, (rd_T31 x0 x1).f5, (rd_T31 x0 x1).f6, (rd_T31 x0 x1).f7, 0)) else (none)) else (none))
end
def haywainref22_Give.f (k : Nat) (l0 : List (S31)) (a1 : Int) : Option ((List (S31)) × Int × Int × Int × Int × Int × Int × Int × ByteArray × Int) := (haywainref22_Good.f k l0).bind fun t243 => (if a1 < 0 then (haywainref22_Give.j0 k t243 a1 true) else (haywainref22_Give.j0 k t243 a1 (decide (a1 ≥ (t243.length : Int)))))
theorem haywainref22_Give.mono_l : ∀ k, (∀ y0 y1 y2, LeO (haywainref22_Give.j0 k y0 y1 y2) (haywainref22_Give.j0 (k + 1) y0 y1 y2)) ∧ (∀ y0 y1 y2 y3, LeO (haywainref22_Give.l0 k y0 y1 y2 y3) (haywainref22_Give.l0 (k + 1) y0 y1 y2 y3))
 | 0 => ⟨fun _ _ _ r h => by simp [haywainref22_Give.j0] at h, fun _ _ _ _ r h => by simp [haywainref22_Give.l0] at h⟩
 | k + 1 => by
  obtain ⟨ih0, ih1⟩ := haywainref22_Give.mono_l k
  refine ⟨?_, ?_⟩
  ·intro y0 y1 y2
   unfold haywainref22_Give.j0
   repeat' first
   | (with_reducible exact ih0 _ _ _)
   | (with_reducible exact ih1 _ _ _ _)
   | (with_reducible exact haywainref22_Good.mono _ _)
   | (with_reducible exact LeO.refl _)
   | (with_reducible exact LeO.none _)
   | (with_reducible refine LeO.ite ?_ ?_)
   | (with_reducible refine LeO.bind ?_ (fun _ => ?_))
   | exact ih0 _ _ _
   | exact ih1 _ _ _ _
   | exact haywainref22_Good.mono _ _
   | exact LeO.none _
   | refine LeO.ite ?_ ?_
   | refine LeO.bind ?_ (fun _ => ?_)
  ·intro y0 y1 y2 y3
   unfold haywainref22_Give.l0
   repeat' first
   | (with_reducible exact ih0 _ _ _)
   | (with_reducible exact ih1 _ _ _ _)
   | (with_reducible exact haywainref22_Good.mono _ _)
   | (with_reducible exact LeO.refl _)
   | (with_reducible exact LeO.none _)
   | (with_reducible refine LeO.ite ?_ ?_)
   | (with_reducible refine LeO.bind ?_ (fun _ => ?_))
   | exact ih0 _ _ _
   | exact ih1 _ _ _ _
   | exact haywainref22_Good.mono _ _
   | exact LeO.none _
   | refine LeO.ite ?_ ?_
   | refine LeO.bind ?_ (fun _ => ?_)
theorem haywainref22_Give.mono : ∀ a0 a1 k, LeO (haywainref22_Give.f k a0 a1) (haywainref22_Give.f (k + 1) a0 a1) := by
 intro a0 a1 k
 obtain ⟨ih0, ih1⟩ := haywainref22_Give.mono_l k
 unfold haywainref22_Give.f
 repeat' first
   | (with_reducible exact ih0 _ _ _)
   | (with_reducible exact ih1 _ _ _ _)
   | (with_reducible exact haywainref22_Good.mono _ _)
   | (with_reducible exact LeO.refl _)
   | (with_reducible exact LeO.none _)
   | (with_reducible refine LeO.ite ?_ ?_)
   | (with_reducible refine LeO.bind ?_ (fun _ => ?_))
   | exact ih0 _ _ _
   | exact ih1 _ _ _ _
   | exact haywainref22_Good.mono _ _
   | exact LeO.none _
   | refine LeO.ite ?_ ?_
   | refine LeO.bind ?_ (fun _ => ?_)
def haywainref22_Give.T10 : Bool × List (List Nat × List Nat) := (true, [([], []), ([], []), ([], []), ([1, 2], [1, 2]), ([3], [3]), ([0, 0], [0]), ([4, 5, 0, 1, 2, 3, 4, 5], [4]), ([6, 0, 1, 2, 3, 4, 5, 6], [])])
def haywainref22_Give.B10 : List Nat := [0, 0, 0, 6, 14, 1, 63, 127]
theorem haywainref22_Give.tab10 : rtab .any (opsOf Try.f18 10) = haywainref22_Give.T10 := by kernel_rfl
theorem haywainref22_Give.bits10 : waitsOk haywainref22_Give.T10.2 haywainref22_Give.B10 = true := by kernel_rfl
set_option maxHeartbeats 8000000 in
set_option maxRecDepth 100000 in
theorem haywainref22_Give.calls (k : Nat) (P0_ : Nat → Prop) (A0 : Option Addr) (c0 : Nat) (l0 : List (S31)) (a1 : Int) (r1 : List (S31)) (r2 : Int) (r3 : Int) (r4 : Int) (r5 : Int) (r6 : Int) (r7 : Int) (r8 : Int) (r9 : ByteArray) (r10 : Int) (w : World) (hs0 : Kd.V k31 31 w w.heap.size (fun k_ => P0_ k_) (.slice A0 l0.length c0) l0) (h : haywainref22_Give.f k l0 a1 = some (r1, r2, r3, r4, r5, r6, r7, r8, r9, r10)) :
  Calls Try.prog 18 #[.slice A0 l0.length c0, .int .i64 a1] w fun e w' => ∃ v0_ : Value, e = .returned (.tuple #[v0_, .agg #[.int .i64 r2, .int .i64 r3, .int .i64 r4, .int .i64 r5, .int .i64 r6, .int .i64 r7, .int .i64 r8, .string r9], .int .i64 r10]) ∧ Kd.V k31 31 w' w.heap.size (fun k_ => (P0_ k_ ∨ w.heap.size ≤ k_)) v0_ r1 ∧ Below w.heap.size w w' := by
 have hu31 := Try.underlying31
 have HO0 := Aside0.mk (show Kd.V k31 31 w w.heap.size (fun k_ => (P0_ k_ ∨ w.heap.size ≤ k_)) (.slice A0 l0.length c0) l0 from Kd.V_mono hs0 (fun k_ hk => .inl hk))
 have HB := Aside0.mk (Below.refl w.heap.size w)
 have H : ((haywainref22_Good.f k l0).bind fun t243 => (if a1 < 0 then (haywainref22_Give.j0 k t243 a1 true) else (haywainref22_Give.j0 k t243 a1 (decide (a1 ≥ (t243.length : Int)))))) = some (r1, r2, r3, r4, r5, r6, r7, r8, r9, r10) := h
 clear h
 replace H := Option.bind_eq_some_iff.mp H
 obtain ⟨t243, A30, H⟩ := H
 replace H : (if a1 < 0 then (haywainref22_Give.j0 k t243 a1 true) else (haywainref22_Give.j0 k t243 a1 (decide (a1 ≥ (t243.length : Int))))) = some (r1, r2, r3, r4, r5, r6, r7, r8, r9, r10) := H
 have A3 := Aside0.mk A30
 clear A30
 have HC4 := Aside0.mk H
 clear H
 go_enter Try.func18, Try.ntmps18
 go_upto_region 2 with (first | ((with_reducible refine gate_dst (N := 5) rfl ?_); (try (refine gate_guard (by rfl) ?_; dsimp only)); refine box_event ?hg (N := 5) ?hd (cs := #[.int .i64 0, .int .i64 0, .int .i64 0, .int .i64 0, .int .i64 0, .int .i64 0, .int .i64 0, .string (⟨#[]⟩ : ByteArray)]) (t := 31) ?hr ?_; (case hd => rfl); (case hg => rfl); (case hr => first | (go_simp; done) | (go_simp; rfl)); intro gb242 hg w5 hbox hb; have n0_ := Aside0.mk (Kd.V_below (Kd.V_elderB (by (with_reducible repeat (first | apply Kd.V_alloc | apply Kd.V_drewN | apply Kd.V_drew)); exact HO0.out) gb242 (Nat.le_of_eq hg.symm)) hb); have n1_ := Aside0.mk (below_step (by repeat (first | (with_reducible first | exact HB.out | apply below_alloc | apply pw_below_drewN | apply below_drew1) | exact HB.out)) hb); have n2_ := Aside0.mk (hbox); have n3_ := Aside0.mk ((by rw [hg]; exact (below_size (by repeat (first | (with_reducible first | exact HB.out | apply below_alloc | apply pw_below_drewN | apply below_drew1) | exact HB.out))) : w.heap.size ≤ gb242)); have n4_ := Aside0.mk ((by rw [hg]; exact (below_size (by repeat (first | (with_reducible first | exact HB.out | apply below_alloc | apply pw_below_drewN | apply below_drew1) | exact HB.out))) : w.heap.size ≤ gb242)); clear HO0; clear HB; have HO0 := n0_; have HB := n1_; have BK242 := n2_; have GW242 := n3_; have GE242 := n4_; clear n0_ n1_ n2_ n3_ n4_; clear hb hbox hg) | ((with_reducible refine gate_callee (f := 22) rfl ?_); refine goesL_ (some 10) rfl rfl Try.func22 (by kernel_rfl) rfl #[.slice A0 l0.length c0] rfl (by (try simp only [List.map_toArray, List.map_cons, List.map_nil]); first | done | rfl | (simp only [List.length_drop, List.length_take]; rfl)) ?_; (with_reducible refine (haywainref22_Good.calls k (fun k_ => ((P0_ k_ ∨ w.heap.size ≤ k_) ∧ k_ ≠ gb242)) _ _ l0 t243 _ ?side1 A3.out).mono ?_); (case side1 => exact HO0.out); rintro e w6 ⟨v244, rfl, ho0, hb⟩; refine ⟨_, rfl, ?_⟩; have n0_ := Aside0.mk (Kd.V_below (by (with_reducible repeat (first | apply Kd.V_alloc | apply Kd.V_drewN | apply Kd.V_drew)); exact HO0.out) hb); have n1_ := Aside0.mk (Kd.V_lower (Kd.V_mono (ok' := fun k_ => (P0_ k_ ∨ w.heap.size ≤ k_) ∧ k_ ≠ gb242) ho0 (fun k_ hk_ => ⟨Or.elim hk_ (fun hs_ => hs_.1) (fun hn_ => (.inr (Nat.le_trans (below_size (by repeat (first | (with_reducible first | exact HB.out | apply below_alloc | apply pw_below_drewN | apply below_drew1 | refine below_set ?_ GE242.out) | exact HB.out))) hn_))), Or.elim hk_ (fun hs_ => hs_.2) (fun hn_ => (Kd.freshB (g := gb242) (o := .cells #[.int .i64 0, .int .i64 0, .int .i64 0, .int .i64 0, .int .i64 0, .int .i64 0, .int .i64 0, .string (⟨#[]⟩ : ByteArray)] 31 (0, 0)) (by (with_reducible repeat (first | refine blk_drewN ?_ _ | refine blk_drew ?_ | refine blk_alloc ?_ _)); exact BK242.out) k_ hn_))⟩)) (below_size (by repeat (first | (with_reducible first | exact HB.out | apply below_alloc | apply pw_below_drewN | apply below_drew1 | refine below_set ?_ GE242.out) | exact HB.out)))); have n2_ := Aside0.mk (blk_below (g := gb242) (o := .cells #[.int .i64 0, .int .i64 0, .int .i64 0, .int .i64 0, .int .i64 0, .int .i64 0, .int .i64 0, .string (⟨#[]⟩ : ByteArray)] 31 (0, 0)) (by (with_reducible repeat (first | refine blk_drewN ?_ _ | refine blk_drew ?_ | refine blk_alloc ?_ _)); exact BK242.out) hb); have n3_ := Aside0.mk (below_step (by repeat (first | (with_reducible first | exact HB.out | apply below_alloc | apply pw_below_drewN | apply below_drew1 | refine below_set ?_ GE242.out) | exact HB.out)) hb); clear HO0; clear BK242; clear HB; have HO0 := n0_; have HO245 := n1_; have BK242 := n2_; have HB := n3_; clear n0_ n1_ n2_ n3_; (try clear hb); (try clear hb2); (try clear hk); (try clear hi); (try clear ho0)))
 (try simp only [Act.put, List.setIfInBounds_toArray, List.set_cons_zero, List.set_cons_succ])
 go_cut [18] (fun v18 wc => ∃ (kq : Nat) (x18_3 : Bool), v18 = .bool x18_3 ∧ Aside0 (haywainref22_Give.j0 kq t243 a1 x18_3 = some (r1, r2, r3, r4, r5, r6, r7, r8, r9, r10)) ∧ Aside0 (kq ≤ k) ∧ Aside0 (Kd.V k31 31 wc w.heap.size (fun k_ => (P0_ k_ ∨ w.heap.size ≤ k_) ∧ k_ ≠ gb242) v244 t243) ∧ Aside0 (wc.heap[gb242]? = some (.cells #[.int .i64 0, .int .i64 0, .int .i64 0, .int .i64 0, .int .i64 0, .int .i64 0, .int .i64 0, .string (⟨#[]⟩ : ByteArray)] 31 (0, 0))) ∧ Aside0 (Below w.heap.size w wc))
 case first =>
  have H := HC4.out
  clear HC4
  by_cases c7 : a1 < 0
  ·rw [if_pos c7] at H
   have c7b0 : decide (a1 < 0) = true := decide_eq_true c7
   clear c7
   (first | rw [c7b0] | (simp only [i64_w, i32_w]; rw [c7b0]) | skip)
   have H' := Aside0.mk H
   clear H
   go_wp2
   go_meet
   case rel => exact ⟨_, (true), (by first | rfl | (simp; done) | (simp [*]; done)), H', ⟨by first | omega | exact Nat.le_refl _⟩, ⟨by (with_reducible repeat (first | apply Kd.V_alloc | apply Kd.V_drewN | apply Kd.V_drew)); exact HO245.out⟩, ⟨by (with_reducible repeat (first | refine blk_drewN ?_ _ | refine blk_drew ?_ | refine blk_alloc ?_ _)); exact BK242.out⟩, ⟨by repeat (first | (with_reducible first | exact HB.out | apply below_alloc | apply pw_below_drewN | apply below_drew1 | refine below_set ?_ GE242.out) | exact HB.out)⟩⟩
  ·rw [if_neg c7] at H
   have c7b0 : decide (a1 < 0) = false := decide_eq_false c7
   clear c7
   (first | rw [c7b0] | (simp only [i64_w, i32_w]; rw [c7b0]) | skip)
   have H' := Aside0.mk H
   clear H
   obtain ⟨Ao8, co8, eo8⟩ := Kd.V_slice HO245.out
   subst eo8
   go_wp2
   go_meet
   case rel => exact ⟨_, (decide (a1 ≥ (t243.length : Int))), (by first | rfl | (simp; done) | (simp [*]; done)), H', ⟨by first | omega | exact Nat.le_refl _⟩, ⟨by (with_reducible repeat (first | apply Kd.V_alloc | apply Kd.V_drewN | apply Kd.V_drew)); exact HO245.out⟩, ⟨by (with_reducible repeat (first | refine blk_drewN ?_ _ | refine blk_drew ?_ | refine blk_alloc ?_ _)); exact BK242.out⟩, ⟨by repeat (first | (with_reducible first | exact HB.out | apply below_alloc | apply pw_below_drewN | apply below_drew1 | refine below_set ?_ GE242.out) | exact HB.out)⟩⟩
 case rest =>
  clear HC4
  try clear c1
  try clear c2
  try clear p2
  try clear c7
  try clear c7b0
  obtain ⟨kq, x18_3, rfl, HA, HJ3, HO_0, BK242, HB⟩ := hcut
  cases kq with
  | zero => exact absurd HA.out (by simp [haywainref22_Give.j0])
  | succ kj3 =>
   have H := HA.out
   clear HA
   simp only [haywainref22_Give.j0] at H
   by_cases c9 : x18_3 = true
   ·subst c9
    have H1 : (some (t243, 0, 0, 0, 0, 0, 0, 0, (⟨#[]⟩ : ByteArray), 4)) = some (r1, r2, r3, r4, r5, r6, r7, r8, r9, r10) := by rw [if_pos rfl] at H; exact H
    clear H
    have H := H1
    clear H1
    simp only [Option.some.injEq, Prod.mk.injEq] at H
    obtain ⟨rfl, rfl, rfl, rfl, rfl, rfl, rfl, rfl, rfl, rfl⟩ := H
    have hcz10_0 : wc.cell? ⟨gb242, 0, none⟩ = some (.int .i64 0) := (blk_cell BK242.out 0).trans rfl
    have hcz10_1 : wc.cell? ⟨gb242, 1, none⟩ = some (.int .i64 0) := (blk_cell BK242.out 1).trans rfl
    have hcz10_2 : wc.cell? ⟨gb242, 2, none⟩ = some (.int .i64 0) := (blk_cell BK242.out 2).trans rfl
    have hcz10_3 : wc.cell? ⟨gb242, 3, none⟩ = some (.int .i64 0) := (blk_cell BK242.out 3).trans rfl
    have hcz10_4 : wc.cell? ⟨gb242, 4, none⟩ = some (.int .i64 0) := (blk_cell BK242.out 4).trans rfl
    have hcz10_5 : wc.cell? ⟨gb242, 5, none⟩ = some (.int .i64 0) := (blk_cell BK242.out 5).trans rfl
    have hcz10_6 : wc.cell? ⟨gb242, 6, none⟩ = some (.int .i64 0) := (blk_cell BK242.out 6).trans rfl
    have hcz10_7 : wc.cell? ⟨gb242, 7, none⟩ = some (.string (⟨#[]⟩ : ByteArray)) := (blk_cell BK242.out 7).trans rfl
    have hfz10_0 := blk_frozen BK242.out 0
    have hfz10_1 := blk_frozen BK242.out 1
    have hfz10_2 := blk_frozen BK242.out 2
    have hfz10_3 := blk_frozen BK242.out 3
    have hfz10_4 := blk_frozen BK242.out 4
    have hfz10_5 := blk_frozen BK242.out 5
    have hfz10_6 := blk_frozen BK242.out 6
    have hfz10_7 := blk_frozen BK242.out 7
    go_wp2
    refine bodyPost_ret (results_list (rs := [.tmp 4, .cell 5 31, .tmp 6]) rfl (by simp) (.tmp (.cell gb242 31 #[.int .i64 0, .int .i64 0, .int .i64 0, .int .i64 0, .int .i64 0, .int .i64 0, .int .i64 0, .string (⟨#[]⟩ : ByteArray)] (0, 0) _ rfl (by (with_reducible repeat (first | refine blk_drewN ?_ _ | refine blk_drew ?_ | refine blk_alloc ?_ _)); refine blk_put (cs := #[.int .i64 0, .int .i64 0, .int .i64 0, .int .i64 0, .int .i64 0, .int .i64 0, .int .i64 0, .string (⟨#[]⟩ : ByteArray)]) ?_ 7 _ rfl; (with_reducible repeat (first | refine blk_drewN ?_ _ | refine blk_drew ?_ | refine blk_alloc ?_ _)); refine blk_put (cs := #[.int .i64 0, .int .i64 0, .int .i64 0, .int .i64 0, .int .i64 0, .int .i64 0, .int .i64 0, .string (⟨#[]⟩ : ByteArray)]) ?_ 6 _ rfl; (with_reducible repeat (first | refine blk_drewN ?_ _ | refine blk_drew ?_ | refine blk_alloc ?_ _)); refine blk_put (cs := #[.int .i64 0, .int .i64 0, .int .i64 0, .int .i64 0, .int .i64 0, .int .i64 0, .int .i64 0, .string (⟨#[]⟩ : ByteArray)]) ?_ 5 _ rfl; (with_reducible repeat (first | refine blk_drewN ?_ _ | refine blk_drew ?_ | refine blk_alloc ?_ _)); refine blk_put (cs := #[.int .i64 0, .int .i64 0, .int .i64 0, .int .i64 0, .int .i64 0, .int .i64 0, .int .i64 0, .string (⟨#[]⟩ : ByteArray)]) ?_ 4 _ rfl; (with_reducible repeat (first | refine blk_drewN ?_ _ | refine blk_drew ?_ | refine blk_alloc ?_ _)); refine blk_put (cs := #[.int .i64 0, .int .i64 0, .int .i64 0, .int .i64 0, .int .i64 0, .int .i64 0, .int .i64 0, .string (⟨#[]⟩ : ByteArray)]) ?_ 3 _ rfl; (with_reducible repeat (first | refine blk_drewN ?_ _ | refine blk_drew ?_ | refine blk_alloc ?_ _)); refine blk_put (cs := #[.int .i64 0, .int .i64 0, .int .i64 0, .int .i64 0, .int .i64 0, .int .i64 0, .int .i64 0, .string (⟨#[]⟩ : ByteArray)]) ?_ 2 _ rfl; (with_reducible repeat (first | refine blk_drewN ?_ _ | refine blk_drew ?_ | refine blk_alloc ?_ _)); refine blk_put (cs := #[.int .i64 0, .int .i64 0, .int .i64 0, .int .i64 0, .int .i64 0, .int .i64 0, .int .i64 0, .string (⟨#[]⟩ : ByteArray)]) ?_ 1 _ rfl; (with_reducible repeat (first | refine blk_drewN ?_ _ | refine blk_drew ?_ | refine blk_alloc ?_ _)); refine blk_put (cs := #[.int .i64 0, .int .i64 0, .int .i64 0, .int .i64 0, .int .i64 0, .int .i64 0, .int .i64 0, .string (⟨#[]⟩ : ByteArray)]) ?_ 0 _ rfl; (with_reducible repeat (first | refine blk_drewN ?_ _ | refine blk_drew ?_ | refine blk_alloc ?_ _)); exact BK242.out) Try.underlying31 rfl (by kernel_rfl) (.tmp .nil)))) rfl ?_
    exact ⟨_, by first | rfl | (simp [errW_none, errW_some] <;> rfl) | (simp [*, errW_none, errW_some] <;> rfl), by (with_reducible repeat (first | apply Kd.V_alloc | apply Kd.V_drewN | apply Kd.V_drew)); exact Kd.V_mono (Kd.V_far (p := ⟨gb242, 7, none⟩) (Kd.V_far (p := ⟨gb242, 6, none⟩) (Kd.V_far (p := ⟨gb242, 5, none⟩) (Kd.V_far (p := ⟨gb242, 4, none⟩) (Kd.V_far (p := ⟨gb242, 3, none⟩) (Kd.V_far (p := ⟨gb242, 2, none⟩) (Kd.V_far (p := ⟨gb242, 1, none⟩) (Kd.V_far (p := ⟨gb242, 0, none⟩) (Kd.V_mono HO_0.out (fun k_ hk => (⟨hk, hk.2⟩ : _ ∧ k_ ≠ gb242))) (fun _ hk => hk.2) (.int .i64 0)) (fun _ hk => hk.2) (.int .i64 0)) (fun _ hk => hk.2) (.int .i64 0)) (fun _ hk => hk.2) (.int .i64 0)) (fun _ hk => hk.2) (.int .i64 0)) (fun _ hk => hk.2) (.int .i64 0)) (fun _ hk => hk.2) (.int .i64 0)) (fun _ hk => hk.2) (.string (⟨#[]⟩ : ByteArray))) (fun _ hk => hk.1.1), by repeat (first | (with_reducible first | exact HB.out | apply below_alloc | apply pw_below_drewN | apply below_drew1 | refine below_set ?_ GE242.out) | exact HB.out)⟩
   ·replace c9 := Bool.eq_false_iff.mpr c9
    subst c9
    have H1 : (haywainref22_Give.l0 kj3 t243 a1 ([] : List (S31)) 0) = some (r1, r2, r3, r4, r5, r6, r7, r8, r9, r10) := by rw [if_neg (show ¬ (false = true) by decide)] at H; exact H
    clear H
    have H := H1
    clear H1
    have H' := Aside0.mk H
    clear H
    go_wp2
    go_loopg [7, 8] kj3 (fun kq v7 v8 w' => ∃ (x7_2 : List (S31)) (x8_2 : Int), v8 = .int .i64 x8_2 ∧ Aside0 (haywainref22_Give.l0 kq t243 a1 x7_2 x8_2 = some (r1, r2, r3, r4, r5, r6, r7, r8, r9, r10)) ∧ Aside0 (kq ≤ kj3) ∧ Aside0 (Kd.V k31 31 w' w.heap.size (fun k_ => (P0_ k_ ∨ w.heap.size ≤ k_) ∧ some k_ ≠ (v7 : Value).ownBlock ∧ k_ ≠ gb242) v244 t243) ∧ Aside0 (Kd.R k31 31 w' w.heap.size (fun k_ => (w.heap.size ≤ k_) ∧ k_ ≠ gb242) v7 x7_2) ∧ Aside0 (w'.heap[gb242]? = some (.cells #[.int .i64 0, .int .i64 0, .int .i64 0, .int .i64 0, .int .i64 0, .int .i64 0, .int .i64 0, .string (⟨#[]⟩ : ByteArray)] 31 (0, 0))) ∧ Aside0 (Below w.heap.size w w'))
    case atStart => exact ⟨(([] : List (S31))), (0), (by first | rfl | (simp; done) | (simp [*]; done)), H', ⟨Nat.le_refl _⟩, ⟨by (with_reducible repeat (first | apply Kd.V_alloc | apply Kd.V_drewN | apply Kd.V_drew)); exact Kd.V_mono HO_0.out (fun _ hk => ⟨hk.1, ⟨(by simp [Value.ownBlock]), hk.2⟩⟩)⟩, ⟨by first | exact Kd.R_nil _ _ _ _ _ | exact Kd.N_nil _ _ _ _ _ | exact Kd.V_nil _ _ _ _ _ | exact Kd.Q_nil _ _ _ _ _ | exact Kd.S_nil _ _ _ _ _⟩, ⟨by (with_reducible repeat (first | refine blk_drewN ?_ _ | refine blk_drew ?_ | refine blk_alloc ?_ _)); exact BK242.out⟩, ⟨by repeat (first | (with_reducible first | exact HB.out | apply below_alloc | apply pw_below_drewN | apply below_drew1 | refine below_set ?_ GE242.out) | exact HB.out)⟩⟩
    case round =>
     clear H'
     try clear c1
     try clear c2
     try clear p2
     try clear c7
     try clear c7b0
     try clear c9
     try clear hcz10_0
     try clear hcz10_1
     try clear hcz10_2
     try clear hcz10_3
     try clear hcz10_4
     try clear hcz10_5
     try clear hcz10_6
     try clear hcz10_7
     try clear hfz10_0
     try clear hfz10_1
     try clear hfz10_2
     try clear hfz10_3
     try clear hfz10_4
     try clear hfz10_5
     try clear hfz10_6
     try clear hfz10_7
     try clear p2
     obtain ⟨x7_2, x8_2, rfl, HA, HK2, HO_0, HO_7, BK242, HB⟩ := hrel
     cases gk with
     | zero => exact absurd HA.out (by simp [haywainref22_Give.l0])
     | succ k2 =>
      have H := HA.out
      clear HA
      simp only [haywainref22_Give.l0] at H
      by_cases c11 : x8_2 < (t243.length : Int)
      ·rw [if_pos c11] at H
       have c11b0 : decide (x8_2 < (t243.length : Int)) = true := decide_eq_true c11
       clear c11
       by_cases c12 : x8_2 = a1
       ·rw [if_pos c12] at H
        have c12b0 : (x8_2 == a1) = true := beq_iff_eq.mpr c12
        have c12b1 : (x8_2 != a1) = false := bne_eq_false_iff_eq.mpr c12
        clear c12
        have H' := Aside0.mk H
        clear H
        obtain ⟨Ao13, co13, eo13⟩ := Kd.V_slice HO_0.out
        subst eo13
        go_wp2
        go_roundg k2
        case measure => have := HJ3.out; have := HK2.out; omega
        case rel => exact ⟨(x7_2), (wrap64 (x8_2 + 1)), (by first | rfl | (simp; done) | (simp [*]; done)), H', ⟨by have := HJ3.out; have := HK2.out; omega⟩, ⟨by (with_reducible repeat (first | apply Kd.V_alloc | apply Kd.V_drewN | apply Kd.V_drew)); exact HO_0.out⟩, ⟨by (with_reducible repeat (first | apply Kd.R_alloc | apply Kd.R_drewN | apply Kd.R_drew)); exact HO_7.out⟩, ⟨by (with_reducible repeat (first | refine blk_drewN ?_ _ | refine blk_drew ?_ | refine blk_alloc ?_ _)); exact BK242.out⟩, ⟨by repeat (first | (with_reducible first | exact HB.out | apply below_alloc | apply pw_below_drewN | apply below_drew1 | refine below_set ?_ GE242.out) | exact HB.out)⟩⟩
       ·rw [if_neg c12] at H
        have c12b0 : (x8_2 == a1) = false := beq_eq_false_iff_ne.mpr c12
        have c12b1 : (x8_2 != a1) = true := bne_iff_ne.mpr c12
        by_cases c14 : 0 ≤ x8_2
        ·rw [if_pos c14] at H
         have c14b0 : decide (0 ≤ x8_2) = true := decide_eq_true c14
         clear c14
         by_cases c15 : x7_2.length < 1954687338268
         ·rw [if_pos c15] at H
          have LMc15 := Aside0.mk c15
          clear c15
          obtain ⟨y247, hy247⟩ : ∃ y_ : List (S31), y_ = (x7_2 ++ [(⟨(rd_T31 t243 x8_2).f0, (rd_T31 t243 x8_2).f1, (rd_T31 t243 x8_2).f2, (rd_T31 t243 x8_2).f3, (rd_T31 t243 x8_2).f4, (rd_T31 t243 x8_2).f5, (rd_T31 t243 x8_2).f6, (rd_T31 t243 x8_2).f7⟩ : S31)]) := ⟨_, rfl⟩
          replace H : (haywainref22_Give.l0 k2 t243 a1 y247 (wrap64 (x8_2 + 1))) = some (r1, r2, r3, r4, r5, r6, r7, r8, r9, r10) := by first | (rw [hy247]; with_reducible exact H) | (have H2_ := (Option.bind_some _ _).symm.trans H; rw [hy247]; with_reducible exact H2_) | (have H2_ := (Option.bind_some _ _).symm.trans H; with_reducible exact H2_) | with_reducible exact H | (rw [hy247]; exact H) | exact H
          have Ny247 := Aside0.mk hy247
          clear hy247
          have H' := Aside0.mk H
          clear H
          obtain ⟨Ao16, co16, eo16⟩ := Kd.V_slice HO_0.out
          subst eo16
          have p246 : 0 ≤ (x8_2 : Int) := of_decide_eq_true (by first | (with_reducible assumption) | assumption)
          have q246 : x8_2 < (t243.length : Int) := of_decide_eq_true (by first | (with_reducible assumption) | assumption)
          obtain ⟨ad246, e246, hx246_0, hx246_1, hx246_2, hx246_3, hx246_4, hx246_5, hx246_6, hx246_7⟩ := at_T31 (Kd.V_reads' HO_0.out).2.2 x8_2 p246 q246
          cases e246
          replace p246 := eq_true p246
          replace q246 := eq_true q246
          go_wp2_with (first | ((with_reducible refine gate_builtin (b := .append) (xs := #[.tmp 30, .tmp 35]) rfl ?_); (try (refine gate_guard (by rfl) ?_; dsimp only)); at_builtin; refine Kd.R_append k31 (w0 := w) w.heap.size rfl (.tmp 30) (.tmp 35) 32 31 (.agg #[(.int .i64 0), (.int .i64 0), (.int .i64 0), (.int .i64 0), (.int .i64 0), (.int .i64 0), (.int .i64 0), (.string ⟨#[]⟩)]) 72 rfl Try.underlying32 info31 rfl (by decide) (by omega) u7 x7_2 (⟨(rd_T31 t243 x8_2).f0, (rd_T31 t243 x8_2).f1, (rd_T31 t243 x8_2).f2, (rd_T31 t243 x8_2).f3, (rd_T31 t243 x8_2).f4, (rd_T31 t243 x8_2).f5, (rd_T31 t243 x8_2).f6, (rd_T31 t243 x8_2).f7⟩ : S31) [.int .i64 ((rd_T31 t243 x8_2).f0), .int .i64 ((rd_T31 t243 x8_2).f1), .int .i64 ((rd_T31 t243 x8_2).f2), .int .i64 ((rd_T31 t243 x8_2).f3), .int .i64 ((rd_T31 t243 x8_2).f4), .int .i64 ((rd_T31 t243 x8_2).f5), .int .i64 ((rd_T31 t243 x8_2).f6), .string ((rd_T31 t243 x8_2).f7)] (fun k_ => (w.heap.size ≤ k_) ∧ k_ ≠ gb242) (fun _ => False) rfl rfl ?aP (fun _ hk => hk.elim) ?aF ?aO ?aB ?aS ?aL ?_; (case aP => exact k31_mkM _ _ _ (⟨(rd_T31 t243 x8_2).f0, (rd_T31 t243 x8_2).f1, (rd_T31 t243 x8_2).f2, (rd_T31 t243 x8_2).f3, (rd_T31 t243 x8_2).f4, (rd_T31 t243 x8_2).f5, (rd_T31 t243 x8_2).f6, (rd_T31 t243 x8_2).f7⟩ : S31)); (case aB => exact (by repeat (first | (with_reducible first | exact HB.out | apply below_alloc | apply pw_below_drewN | apply below_drew1 | refine below_set ?_ GE242.out) | exact HB.out))); (case aF => exact (fun k_ hk => ⟨(Nat.le_trans (below_size (by repeat (first | (with_reducible first | exact HB.out | apply below_alloc | apply pw_below_drewN | apply below_drew1 | refine below_set ?_ GE242.out) | exact HB.out))) hk), Kd.freshB (g := gb242) (o := .cells #[.int .i64 0, .int .i64 0, .int .i64 0, .int .i64 0, .int .i64 0, .int .i64 0, .int .i64 0, .string (⟨#[]⟩ : ByteArray)] 31 (0, 0)) (by (with_reducible repeat (first | refine blk_drewN ?_ _ | refine blk_drew ?_ | refine blk_alloc ?_ _)); exact BK242.out) k_ hk⟩)); (case aO => exact (by (with_reducible repeat (first | apply Kd.R_alloc | apply Kd.R_drewN | apply Kd.R_drew)); exact HO_7.out)); (case aS => exact (below_size (by repeat (first | (with_reducible first | exact HB.out | apply below_alloc | apply pw_below_drewN | apply below_drew1 | refine below_set ?_ GE242.out) | exact HB.out)))); (case aL => have := LMc15.out; omega); intro v248 w17 ho hb hg hat; rw [← Ny247.out] at ho; have n0_ := Aside0.mk (Kd.V_afterv (ok := (fun k_ => (P0_ k_ ∨ w.heap.size ≤ k_) ∧ k_ ≠ gb242)) (by (with_reducible repeat (first | apply Kd.V_alloc | apply Kd.V_drewN | apply Kd.V_drew)); exact Kd.V_mono HO_0.out (fun _ hk => ⟨⟨hk.1, hk.2.2⟩, hk.2.1⟩)) hg hat); have n1_ := Aside0.mk (blk_grown (g := gb242) (o := .cells #[.int .i64 0, .int .i64 0, .int .i64 0, .int .i64 0, .int .i64 0, .int .i64 0, .int .i64 0, .string (⟨#[]⟩ : ByteArray)] 31 (0, 0)) (by (with_reducible repeat (first | refine blk_drewN ?_ _ | refine blk_drew ?_ | refine blk_alloc ?_ _)); exact BK242.out) hg (Kd.R_away HO_7.out (fun _ hk => hk.2))); have n2_ := Aside0.mk (hb); have n3_ := Aside0.mk (ho); clear HO_0; clear BK242; clear HB; clear HO_7; have HO_0 := n0_; have BK242 := n1_; have HB := n2_; have HO249 := n3_; clear n0_ n1_ n2_ n3_; clear ho hb hg hat))
          go_roundg k2
          case measure => have := HJ3.out; have := HK2.out; omega
          case rel => exact ⟨(y247), (wrap64 (x8_2 + 1)), (by first | rfl | (simp; done) | (simp [*]; done)), H', ⟨by have := HJ3.out; have := HK2.out; omega⟩, ⟨by (with_reducible repeat (first | apply Kd.V_alloc | apply Kd.V_drewN | apply Kd.V_drew)); exact Kd.V_mono HO_0.out (fun _ hk => ⟨hk.1.1, ⟨hk.2, hk.1.2⟩⟩)⟩, ⟨by (with_reducible repeat (first | apply Kd.R_alloc | apply Kd.R_drewN | apply Kd.R_drew)); exact HO249.out⟩, ⟨by (with_reducible repeat (first | refine blk_drewN ?_ _ | refine blk_drew ?_ | refine blk_alloc ?_ _)); exact BK242.out⟩, ⟨by repeat (first | (with_reducible first | exact HB.out | apply below_alloc | apply pw_below_drewN | apply below_drew1 | refine below_set ?_ GE242.out) | exact HB.out)⟩⟩
         ·rw [if_neg c15] at H
          exact absurd H (by simp)
        ·rw [if_neg c14] at H
         exact absurd H (by simp)
      ·rw [if_neg c11] at H
       have c11b0 : decide (x8_2 < (t243.length : Int)) = false := decide_eq_false c11
       clear c11
       by_cases c18 : 0 ≤ a1
       ·rw [if_pos c18] at H
        have c18b0 : decide (0 ≤ a1) = true := decide_eq_true c18
        clear c18
        by_cases c19 : a1 < (t243.length : Int)
        ·rw [if_pos c19] at H
         have c19b0 : decide (a1 < (t243.length : Int)) = true := decide_eq_true c19
         clear c19
         simp only [Option.some.injEq, Prod.mk.injEq] at H
         obtain ⟨rfl, rfl, rfl, rfl, rfl, rfl, rfl, rfl, rfl, rfl⟩ := H
         obtain ⟨Ao20, co20, eo20⟩ := Kd.V_slice HO_0.out
         subst eo20
         try go_wp2
         have n0_ := Aside0.mk (Kd.V_drew HO_0.out)
         have n1_ := Aside0.mk (Kd.R_drew HO_7.out)
         have n2_ := Aside0.mk (blk_drew BK242.out)
         have n3_ := Aside0.mk (below_drew1 HB.out)
         clear HO_0
         clear HO_7
         clear BK242
         clear HB
         have HO_0 := n0_
         have HO_7 := n1_
         have BK242 := n2_
         have HB := n3_
         clear n0_ n1_ n2_ n3_
         have p250 : 0 ≤ (a1 : Int) := of_decide_eq_true (by first | (with_reducible assumption) | assumption)
         have q250 : a1 < (t243.length : Int) := of_decide_eq_true (by first | (with_reducible assumption) | assumption)
         obtain ⟨ad250, e250, hx250_0, hx250_1, hx250_2, hx250_3, hx250_4, hx250_5, hx250_6, hx250_7⟩ := at_T31 (Kd.V_reads' HO_0.out).2.2 a1 p250 q250
         cases e250
         replace p250 := eq_true p250
         replace q250 := eq_true q250
         refine start_ (n := 8) (S := fun w' => w'.cell? (ad250.add ((a1).toNat * 8)) = some (.int .i64 ((rd_T31 t243 a1).f0)) ∧ w'.cell? ⟨(ad250.add ((a1).toNat * 8)).block, (ad250.add ((a1).toNat * 8)).off + 1, none⟩ = some (.int .i64 ((rd_T31 t243 a1).f1)) ∧ w'.cell? ⟨(ad250.add ((a1).toNat * 8)).block, (ad250.add ((a1).toNat * 8)).off + 2, none⟩ = some (.int .i64 ((rd_T31 t243 a1).f2)) ∧ w'.cell? ⟨(ad250.add ((a1).toNat * 8)).block, (ad250.add ((a1).toNat * 8)).off + 3, none⟩ = some (.int .i64 ((rd_T31 t243 a1).f3)) ∧ w'.cell? ⟨(ad250.add ((a1).toNat * 8)).block, (ad250.add ((a1).toNat * 8)).off + 4, none⟩ = some (.int .i64 ((rd_T31 t243 a1).f4)) ∧ w'.cell? ⟨(ad250.add ((a1).toNat * 8)).block, (ad250.add ((a1).toNat * 8)).off + 5, none⟩ = some (.int .i64 ((rd_T31 t243 a1).f5)) ∧ w'.cell? ⟨(ad250.add ((a1).toNat * 8)).block, (ad250.add ((a1).toNat * 8)).off + 6, none⟩ = some (.int .i64 ((rd_T31 t243 a1).f6)) ∧ w'.cell? ⟨(ad250.add ((a1).toNat * 8)).block, (ad250.add ((a1).toNat * 8)).off + 7, none⟩ = some (.string ((rd_T31 t243 a1).f7))) (ds := []) #[false, false, false, false, false, false, false, false] (by kernel_rfl) rfl rfl ⟨hx250_0, hx250_1, hx250_2, hx250_3, hx250_4, hx250_5, hx250_6, hx250_7⟩ (fun hHeld => ?_); refine with_tabW haywainref22_Give.tab10 haywainref22_Give.bits10 (fun HT_ HW_ => ?_)
         generalize wr.drew = w21 at HO_0 HO_7 BK242 HB hx250_0 hx250_1 hx250_2 hx250_3 hx250_4 hx250_5 hx250_6 hx250_7 hHeld ⊢
         refine pure_ (i := 0) (N := some 37) (v := ?_) (a' := ?_) #[true, false, false, false, false, false, false, false] rfl rfl (any_of HT_.out (by kernel_rfl)) (fun _ _ _ h => h) (Or.inl ⟨by rfl, ?_⟩) ?_ ?_
         rotate_left
         ·intro w'
          go_simp
          with_reducible rfl
         rotate_left
         ·simp only [Act.put, List.setIfInBounds_toArray, List.set_cons_zero, List.set_cons_succ, i64_w, i32_w]
          rfl
         refine pure_ (i := 1) (N := some 38) (v := ?_) (a' := ?_) #[true, true, false, false, false, false, false, false] rfl rfl (any_of HT_.out (by kernel_rfl)) (fun _ _ _ h => h) (Or.inl ⟨by rfl, ?_⟩) ?_ ?_
         rotate_left
         ·intro w'
          go_simp
          with_reducible rfl
         rotate_left
         ·simp only [Act.put, List.setIfInBounds_toArray, List.set_cons_zero, List.set_cons_succ, i64_w, i32_w]
          rfl
         refine pure_ (i := 2) (N := some 39) (v := ?_) (a' := ?_) #[true, true, true, false, false, false, false, false] rfl rfl (any_of HT_.out (by kernel_rfl)) (fun _ _ _ h => h) (Or.inl ⟨by rfl, ?_⟩) ?_ ?_
         rotate_left
         ·intro w'
          go_simp
          with_reducible rfl
         rotate_left
         ·simp only [Act.put, List.setIfInBounds_toArray, List.set_cons_zero, List.set_cons_succ, i64_w, i32_w]
          rfl
         refine pure_ (i := 3) (N := some 40) (v := ?_) (a' := ?_) #[true, true, true, true, false, false, false, false] rfl rfl (any_of HT_.out (by kernel_rfl)) (fun _ _ _ h => h) (Or.inl ⟨by rfl, ?_⟩) ?_ ?_
         rotate_left
         ·intro w'
          go_simp
          with_reducible rfl
         rotate_left
         ·simp only [Act.put, List.setIfInBounds_toArray, List.set_cons_zero, List.set_cons_succ, i64_w, i32_w]
          rfl
         refine pure_ (i := 5) (N := some 4) (v := ?_) (a' := ?_) #[true, true, true, true, false, true, false, false] rfl rfl (any_of HT_.out (by kernel_rfl)) (fun _ _ _ h => h) (Or.inl ⟨by rfl, ?_⟩) ?_ ?_
         rotate_left
         ·intro w'
          go_simp
          with_reducible rfl
         rotate_left
         ·simp only [Act.put, List.setIfInBounds_toArray, List.set_cons_zero, List.set_cons_succ, i64_w, i32_w]
          rfl
         refine take_ (i := 4) (N := some 41) (v := ?_) (a' := ?_) #[true, true, true, true, true, true, false, false] rfl rfl (take_ofW HT_.out HW_.out (by kernel_rfl)) (fun _ _ _ h => h) (Or.inl ⟨by rfl, ?_⟩) hHeld ?_ ?_
         rotate_left
         ·rintro w' ⟨s0, s1, s2, s3, s4, s5, s6, s7⟩
          go_simp
          with_reducible rfl
         rotate_left
         ·simp only [Act.put, List.setIfInBounds_toArray, List.set_cons_zero, List.set_cons_succ, i64_w, i32_w]
          rfl
         refine one_ (i := 6) (N := none) #[true, true, true, true, true, true, true, false] rfl rfl (one_of HT_.out (by kernel_rfl)) (by decide) (fun K hK => ?_)
         have hs22 : w21.cell? ⟨gb242, 0, none⟩ = some (.int .i64 0) := (blk_cell BK242.out 0).trans rfl
         have hfs22 := blk_frozen BK242.out 0
         have hs23 : w21.cell? ⟨gb242, 1, none⟩ = some (.int .i64 0) := (blk_cell BK242.out 1).trans rfl
         have hfs23 := blk_frozen BK242.out 1
         have hs24 : w21.cell? ⟨gb242, 2, none⟩ = some (.int .i64 0) := (blk_cell BK242.out 2).trans rfl
         have hfs24 := blk_frozen BK242.out 2
         have hs25 : w21.cell? ⟨gb242, 3, none⟩ = some (.int .i64 0) := (blk_cell BK242.out 3).trans rfl
         have hfs25 := blk_frozen BK242.out 3
         have hs26 : w21.cell? ⟨gb242, 4, none⟩ = some (.int .i64 0) := (blk_cell BK242.out 4).trans rfl
         have hfs26 := blk_frozen BK242.out 4
         have hs27 : w21.cell? ⟨gb242, 5, none⟩ = some (.int .i64 0) := (blk_cell BK242.out 5).trans rfl
         have hfs27 := blk_frozen BK242.out 5
         have hs28 : w21.cell? ⟨gb242, 6, none⟩ = some (.int .i64 0) := (blk_cell BK242.out 6).trans rfl
         have hfs28 := blk_frozen BK242.out 6
         have hs29 : w21.cell? ⟨gb242, 7, none⟩ = some (.string (⟨#[]⟩ : ByteArray)) := (blk_cell BK242.out 7).trans rfl
         have hfs29 := blk_frozen BK242.out 7
         refine skip_ (w1 := ?_) (by rfl) rfl ?_ ?_
         rotate_left
         ·go_simp
          rfl
         have nb1_ := ((Kd.F_in (Kd.V_F HO_0.out) rfl (by first | omega | (have y_ := of_eq_true pi250; have z_ := of_eq_true qi250; omega) | (have y_ := of_eq_true p250; have z_ := of_eq_true q250; omega)) (by decide)).2.2)
         refine hK.out _ _ ⟨((cell_far (p := ⟨gb242, _, none⟩) (by first | exact nb1_ | (rw [add_block]; exact nb1_) | (show (Addr.add _ _).block ≠ _; rw [add_block]; exact nb1_) | (dsimp only; exact nb1_)) _).trans (((cell_far (p := ⟨gb242, _, none⟩) (by first | exact nb1_ | (rw [add_block]; exact nb1_) | (show (Addr.add _ _).block ≠ _; rw [add_block]; exact nb1_) | (dsimp only; exact nb1_)) _).trans (((cell_far (p := ⟨gb242, _, none⟩) (by first | exact nb1_ | (rw [add_block]; exact nb1_) | (show (Addr.add _ _).block ≠ _; rw [add_block]; exact nb1_) | (dsimp only; exact nb1_)) _).trans (((cell_far (p := ⟨gb242, _, none⟩) (by first | exact nb1_ | (rw [add_block]; exact nb1_) | (show (Addr.add _ _).block ≠ _; rw [add_block]; exact nb1_) | (dsimp only; exact nb1_)) _).trans (((cell_far (p := ⟨gb242, _, none⟩) (by first | exact nb1_ | (rw [add_block]; exact nb1_) | (show (Addr.add _ _).block ≠ _; rw [add_block]; exact nb1_) | (dsimp only; exact nb1_)) _).trans (((cell_far (p := ⟨gb242, _, none⟩) (by first | exact nb1_ | (rw [add_block]; exact nb1_) | (show (Addr.add _ _).block ≠ _; rw [add_block]; exact nb1_) | (dsimp only; exact nb1_)) _).trans (((cell_far (p := ⟨gb242, _, none⟩) (by first | exact nb1_ | (rw [add_block]; exact nb1_) | (show (Addr.add _ _).block ≠ _; rw [add_block]; exact nb1_) | (dsimp only; exact nb1_)) _).trans (((cell_far (p := ⟨gb242, _, none⟩) (by first | exact nb1_ | (rw [add_block]; exact nb1_) | (show (Addr.add _ _).block ≠ _; rw [add_block]; exact nb1_) | (dsimp only; exact nb1_)) _).trans (hHeld.1)))))))))))))))), ((cell_far (p := ⟨gb242, _, none⟩) (by first | exact nb1_ | (rw [add_block]; exact nb1_) | (show (Addr.add _ _).block ≠ _; rw [add_block]; exact nb1_) | (dsimp only; exact nb1_)) _).trans (((cell_far (p := ⟨gb242, _, none⟩) (by first | exact nb1_ | (rw [add_block]; exact nb1_) | (show (Addr.add _ _).block ≠ _; rw [add_block]; exact nb1_) | (dsimp only; exact nb1_)) _).trans (((cell_far (p := ⟨gb242, _, none⟩) (by first | exact nb1_ | (rw [add_block]; exact nb1_) | (show (Addr.add _ _).block ≠ _; rw [add_block]; exact nb1_) | (dsimp only; exact nb1_)) _).trans (((cell_far (p := ⟨gb242, _, none⟩) (by first | exact nb1_ | (rw [add_block]; exact nb1_) | (show (Addr.add _ _).block ≠ _; rw [add_block]; exact nb1_) | (dsimp only; exact nb1_)) _).trans (((cell_far (p := ⟨gb242, _, none⟩) (by first | exact nb1_ | (rw [add_block]; exact nb1_) | (show (Addr.add _ _).block ≠ _; rw [add_block]; exact nb1_) | (dsimp only; exact nb1_)) _).trans (((cell_far (p := ⟨gb242, _, none⟩) (by first | exact nb1_ | (rw [add_block]; exact nb1_) | (show (Addr.add _ _).block ≠ _; rw [add_block]; exact nb1_) | (dsimp only; exact nb1_)) _).trans (((cell_far (p := ⟨gb242, _, none⟩) (by first | exact nb1_ | (rw [add_block]; exact nb1_) | (show (Addr.add _ _).block ≠ _; rw [add_block]; exact nb1_) | (dsimp only; exact nb1_)) _).trans (((cell_far (p := ⟨gb242, _, none⟩) (by first | exact nb1_ | (rw [add_block]; exact nb1_) | (show (Addr.add _ _).block ≠ _; rw [add_block]; exact nb1_) | (dsimp only; exact nb1_)) _).trans (hHeld.2.1)))))))))))))))), ((cell_far (p := ⟨gb242, _, none⟩) (by first | exact nb1_ | (rw [add_block]; exact nb1_) | (show (Addr.add _ _).block ≠ _; rw [add_block]; exact nb1_) | (dsimp only; exact nb1_)) _).trans (((cell_far (p := ⟨gb242, _, none⟩) (by first | exact nb1_ | (rw [add_block]; exact nb1_) | (show (Addr.add _ _).block ≠ _; rw [add_block]; exact nb1_) | (dsimp only; exact nb1_)) _).trans (((cell_far (p := ⟨gb242, _, none⟩) (by first | exact nb1_ | (rw [add_block]; exact nb1_) | (show (Addr.add _ _).block ≠ _; rw [add_block]; exact nb1_) | (dsimp only; exact nb1_)) _).trans (((cell_far (p := ⟨gb242, _, none⟩) (by first | exact nb1_ | (rw [add_block]; exact nb1_) | (show (Addr.add _ _).block ≠ _; rw [add_block]; exact nb1_) | (dsimp only; exact nb1_)) _).trans (((cell_far (p := ⟨gb242, _, none⟩) (by first | exact nb1_ | (rw [add_block]; exact nb1_) | (show (Addr.add _ _).block ≠ _; rw [add_block]; exact nb1_) | (dsimp only; exact nb1_)) _).trans (((cell_far (p := ⟨gb242, _, none⟩) (by first | exact nb1_ | (rw [add_block]; exact nb1_) | (show (Addr.add _ _).block ≠ _; rw [add_block]; exact nb1_) | (dsimp only; exact nb1_)) _).trans (((cell_far (p := ⟨gb242, _, none⟩) (by first | exact nb1_ | (rw [add_block]; exact nb1_) | (show (Addr.add _ _).block ≠ _; rw [add_block]; exact nb1_) | (dsimp only; exact nb1_)) _).trans (((cell_far (p := ⟨gb242, _, none⟩) (by first | exact nb1_ | (rw [add_block]; exact nb1_) | (show (Addr.add _ _).block ≠ _; rw [add_block]; exact nb1_) | (dsimp only; exact nb1_)) _).trans (hHeld.2.2.1)))))))))))))))), ((cell_far (p := ⟨gb242, _, none⟩) (by first | exact nb1_ | (rw [add_block]; exact nb1_) | (show (Addr.add _ _).block ≠ _; rw [add_block]; exact nb1_) | (dsimp only; exact nb1_)) _).trans (((cell_far (p := ⟨gb242, _, none⟩) (by first | exact nb1_ | (rw [add_block]; exact nb1_) | (show (Addr.add _ _).block ≠ _; rw [add_block]; exact nb1_) | (dsimp only; exact nb1_)) _).trans (((cell_far (p := ⟨gb242, _, none⟩) (by first | exact nb1_ | (rw [add_block]; exact nb1_) | (show (Addr.add _ _).block ≠ _; rw [add_block]; exact nb1_) | (dsimp only; exact nb1_)) _).trans (((cell_far (p := ⟨gb242, _, none⟩) (by first | exact nb1_ | (rw [add_block]; exact nb1_) | (show (Addr.add _ _).block ≠ _; rw [add_block]; exact nb1_) | (dsimp only; exact nb1_)) _).trans (((cell_far (p := ⟨gb242, _, none⟩) (by first | exact nb1_ | (rw [add_block]; exact nb1_) | (show (Addr.add _ _).block ≠ _; rw [add_block]; exact nb1_) | (dsimp only; exact nb1_)) _).trans (((cell_far (p := ⟨gb242, _, none⟩) (by first | exact nb1_ | (rw [add_block]; exact nb1_) | (show (Addr.add _ _).block ≠ _; rw [add_block]; exact nb1_) | (dsimp only; exact nb1_)) _).trans (((cell_far (p := ⟨gb242, _, none⟩) (by first | exact nb1_ | (rw [add_block]; exact nb1_) | (show (Addr.add _ _).block ≠ _; rw [add_block]; exact nb1_) | (dsimp only; exact nb1_)) _).trans (((cell_far (p := ⟨gb242, _, none⟩) (by first | exact nb1_ | (rw [add_block]; exact nb1_) | (show (Addr.add _ _).block ≠ _; rw [add_block]; exact nb1_) | (dsimp only; exact nb1_)) _).trans (hHeld.2.2.2.1)))))))))))))))), ((cell_far (p := ⟨gb242, _, none⟩) (by first | exact nb1_ | (rw [add_block]; exact nb1_) | (show (Addr.add _ _).block ≠ _; rw [add_block]; exact nb1_) | (dsimp only; exact nb1_)) _).trans (((cell_far (p := ⟨gb242, _, none⟩) (by first | exact nb1_ | (rw [add_block]; exact nb1_) | (show (Addr.add _ _).block ≠ _; rw [add_block]; exact nb1_) | (dsimp only; exact nb1_)) _).trans (((cell_far (p := ⟨gb242, _, none⟩) (by first | exact nb1_ | (rw [add_block]; exact nb1_) | (show (Addr.add _ _).block ≠ _; rw [add_block]; exact nb1_) | (dsimp only; exact nb1_)) _).trans (((cell_far (p := ⟨gb242, _, none⟩) (by first | exact nb1_ | (rw [add_block]; exact nb1_) | (show (Addr.add _ _).block ≠ _; rw [add_block]; exact nb1_) | (dsimp only; exact nb1_)) _).trans (((cell_far (p := ⟨gb242, _, none⟩) (by first | exact nb1_ | (rw [add_block]; exact nb1_) | (show (Addr.add _ _).block ≠ _; rw [add_block]; exact nb1_) | (dsimp only; exact nb1_)) _).trans (((cell_far (p := ⟨gb242, _, none⟩) (by first | exact nb1_ | (rw [add_block]; exact nb1_) | (show (Addr.add _ _).block ≠ _; rw [add_block]; exact nb1_) | (dsimp only; exact nb1_)) _).trans (((cell_far (p := ⟨gb242, _, none⟩) (by first | exact nb1_ | (rw [add_block]; exact nb1_) | (show (Addr.add _ _).block ≠ _; rw [add_block]; exact nb1_) | (dsimp only; exact nb1_)) _).trans (((cell_far (p := ⟨gb242, _, none⟩) (by first | exact nb1_ | (rw [add_block]; exact nb1_) | (show (Addr.add _ _).block ≠ _; rw [add_block]; exact nb1_) | (dsimp only; exact nb1_)) _).trans (hHeld.2.2.2.2.1)))))))))))))))), ((cell_far (p := ⟨gb242, _, none⟩) (by first | exact nb1_ | (rw [add_block]; exact nb1_) | (show (Addr.add _ _).block ≠ _; rw [add_block]; exact nb1_) | (dsimp only; exact nb1_)) _).trans (((cell_far (p := ⟨gb242, _, none⟩) (by first | exact nb1_ | (rw [add_block]; exact nb1_) | (show (Addr.add _ _).block ≠ _; rw [add_block]; exact nb1_) | (dsimp only; exact nb1_)) _).trans (((cell_far (p := ⟨gb242, _, none⟩) (by first | exact nb1_ | (rw [add_block]; exact nb1_) | (show (Addr.add _ _).block ≠ _; rw [add_block]; exact nb1_) | (dsimp only; exact nb1_)) _).trans (((cell_far (p := ⟨gb242, _, none⟩) (by first | exact nb1_ | (rw [add_block]; exact nb1_) | (show (Addr.add _ _).block ≠ _; rw [add_block]; exact nb1_) | (dsimp only; exact nb1_)) _).trans (((cell_far (p := ⟨gb242, _, none⟩) (by first | exact nb1_ | (rw [add_block]; exact nb1_) | (show (Addr.add _ _).block ≠ _; rw [add_block]; exact nb1_) | (dsimp only; exact nb1_)) _).trans (((cell_far (p := ⟨gb242, _, none⟩) (by first | exact nb1_ | (rw [add_block]; exact nb1_) | (show (Addr.add _ _).block ≠ _; rw [add_block]; exact nb1_) | (dsimp only; exact nb1_)) _).trans (((cell_far (p := ⟨gb242, _, none⟩) (by first | exact nb1_ | (rw [add_block]; exact nb1_) | (show (Addr.add _ _).block ≠ _; rw [add_block]; exact nb1_) | (dsimp only; exact nb1_)) _).trans (((cell_far (p := ⟨gb242, _, none⟩) (by first | exact nb1_ | (rw [add_block]; exact nb1_) | (show (Addr.add _ _).block ≠ _; rw [add_block]; exact nb1_) | (dsimp only; exact nb1_)) _).trans (hHeld.2.2.2.2.2.1)))))))))))))))), ((cell_far (p := ⟨gb242, _, none⟩) (by first | exact nb1_ | (rw [add_block]; exact nb1_) | (show (Addr.add _ _).block ≠ _; rw [add_block]; exact nb1_) | (dsimp only; exact nb1_)) _).trans (((cell_far (p := ⟨gb242, _, none⟩) (by first | exact nb1_ | (rw [add_block]; exact nb1_) | (show (Addr.add _ _).block ≠ _; rw [add_block]; exact nb1_) | (dsimp only; exact nb1_)) _).trans (((cell_far (p := ⟨gb242, _, none⟩) (by first | exact nb1_ | (rw [add_block]; exact nb1_) | (show (Addr.add _ _).block ≠ _; rw [add_block]; exact nb1_) | (dsimp only; exact nb1_)) _).trans (((cell_far (p := ⟨gb242, _, none⟩) (by first | exact nb1_ | (rw [add_block]; exact nb1_) | (show (Addr.add _ _).block ≠ _; rw [add_block]; exact nb1_) | (dsimp only; exact nb1_)) _).trans (((cell_far (p := ⟨gb242, _, none⟩) (by first | exact nb1_ | (rw [add_block]; exact nb1_) | (show (Addr.add _ _).block ≠ _; rw [add_block]; exact nb1_) | (dsimp only; exact nb1_)) _).trans (((cell_far (p := ⟨gb242, _, none⟩) (by first | exact nb1_ | (rw [add_block]; exact nb1_) | (show (Addr.add _ _).block ≠ _; rw [add_block]; exact nb1_) | (dsimp only; exact nb1_)) _).trans (((cell_far (p := ⟨gb242, _, none⟩) (by first | exact nb1_ | (rw [add_block]; exact nb1_) | (show (Addr.add _ _).block ≠ _; rw [add_block]; exact nb1_) | (dsimp only; exact nb1_)) _).trans (((cell_far (p := ⟨gb242, _, none⟩) (by first | exact nb1_ | (rw [add_block]; exact nb1_) | (show (Addr.add _ _).block ≠ _; rw [add_block]; exact nb1_) | (dsimp only; exact nb1_)) _).trans (hHeld.2.2.2.2.2.2.1)))))))))))))))), ((cell_far (p := ⟨gb242, _, none⟩) (by first | exact nb1_ | (rw [add_block]; exact nb1_) | (show (Addr.add _ _).block ≠ _; rw [add_block]; exact nb1_) | (dsimp only; exact nb1_)) _).trans (((cell_far (p := ⟨gb242, _, none⟩) (by first | exact nb1_ | (rw [add_block]; exact nb1_) | (show (Addr.add _ _).block ≠ _; rw [add_block]; exact nb1_) | (dsimp only; exact nb1_)) _).trans (((cell_far (p := ⟨gb242, _, none⟩) (by first | exact nb1_ | (rw [add_block]; exact nb1_) | (show (Addr.add _ _).block ≠ _; rw [add_block]; exact nb1_) | (dsimp only; exact nb1_)) _).trans (((cell_far (p := ⟨gb242, _, none⟩) (by first | exact nb1_ | (rw [add_block]; exact nb1_) | (show (Addr.add _ _).block ≠ _; rw [add_block]; exact nb1_) | (dsimp only; exact nb1_)) _).trans (((cell_far (p := ⟨gb242, _, none⟩) (by first | exact nb1_ | (rw [add_block]; exact nb1_) | (show (Addr.add _ _).block ≠ _; rw [add_block]; exact nb1_) | (dsimp only; exact nb1_)) _).trans (((cell_far (p := ⟨gb242, _, none⟩) (by first | exact nb1_ | (rw [add_block]; exact nb1_) | (show (Addr.add _ _).block ≠ _; rw [add_block]; exact nb1_) | (dsimp only; exact nb1_)) _).trans (((cell_far (p := ⟨gb242, _, none⟩) (by first | exact nb1_ | (rw [add_block]; exact nb1_) | (show (Addr.add _ _).block ≠ _; rw [add_block]; exact nb1_) | (dsimp only; exact nb1_)) _).trans (((cell_far (p := ⟨gb242, _, none⟩) (by first | exact nb1_ | (rw [add_block]; exact nb1_) | (show (Addr.add _ _).block ≠ _; rw [add_block]; exact nb1_) | (dsimp only; exact nb1_)) _).trans (hHeld.2.2.2.2.2.2.2))))))))))))))))⟩ (fun hHeld => ?_)
         clear hK K
         refine pure_ (i := 7) (N := some 6) (v := ?_) (a' := ?_) #[true, true, true, true, true, true, true, true] rfl rfl (any_of HT_.out (by kernel_rfl)) (fun _ _ _ h => h) (Or.inl ⟨by rfl, ?_⟩) ?_ ?_
         rotate_left
         ·intro w'
          go_simp
          with_reducible rfl
         rotate_left
         ·simp only [Act.put, List.setIfInBounds_toArray, List.set_cons_zero, List.set_cons_succ, i64_w, i32_w]
          rfl
         refine done_ (done_of HT_.out (by kernel_rfl)) ?_
         try go_wp2
         refine bodyPost_ret (results_list (rs := [.tmp 4, .cell 5 31, .tmp 6]) rfl (by simp) (.tmp (.cell gb242 31 #[.int .i64 ((rd_T31 t243 a1).f0), .int .i64 ((rd_T31 t243 a1).f1), .int .i64 ((rd_T31 t243 a1).f2), .int .i64 ((rd_T31 t243 a1).f3), .int .i64 ((rd_T31 t243 a1).f4), .int .i64 ((rd_T31 t243 a1).f5), .int .i64 ((rd_T31 t243 a1).f6), .string ((rd_T31 t243 a1).f7)] (0, 0) _ rfl (by (with_reducible repeat (first | refine blk_drewN ?_ _ | refine blk_drew ?_ | refine blk_alloc ?_ _)); refine blk_put (cs := #[.int .i64 ((rd_T31 t243 a1).f0), .int .i64 ((rd_T31 t243 a1).f1), .int .i64 ((rd_T31 t243 a1).f2), .int .i64 ((rd_T31 t243 a1).f3), .int .i64 ((rd_T31 t243 a1).f4), .int .i64 ((rd_T31 t243 a1).f5), .int .i64 ((rd_T31 t243 a1).f6), .string (⟨#[]⟩ : ByteArray)]) ?_ 7 _ rfl; (with_reducible repeat (first | refine blk_drewN ?_ _ | refine blk_drew ?_ | refine blk_alloc ?_ _)); refine blk_put (cs := #[.int .i64 ((rd_T31 t243 a1).f0), .int .i64 ((rd_T31 t243 a1).f1), .int .i64 ((rd_T31 t243 a1).f2), .int .i64 ((rd_T31 t243 a1).f3), .int .i64 ((rd_T31 t243 a1).f4), .int .i64 ((rd_T31 t243 a1).f5), .int .i64 0, .string (⟨#[]⟩ : ByteArray)]) ?_ 6 _ rfl; (with_reducible repeat (first | refine blk_drewN ?_ _ | refine blk_drew ?_ | refine blk_alloc ?_ _)); refine blk_put (cs := #[.int .i64 ((rd_T31 t243 a1).f0), .int .i64 ((rd_T31 t243 a1).f1), .int .i64 ((rd_T31 t243 a1).f2), .int .i64 ((rd_T31 t243 a1).f3), .int .i64 ((rd_T31 t243 a1).f4), .int .i64 0, .int .i64 0, .string (⟨#[]⟩ : ByteArray)]) ?_ 5 _ rfl; (with_reducible repeat (first | refine blk_drewN ?_ _ | refine blk_drew ?_ | refine blk_alloc ?_ _)); refine blk_put (cs := #[.int .i64 ((rd_T31 t243 a1).f0), .int .i64 ((rd_T31 t243 a1).f1), .int .i64 ((rd_T31 t243 a1).f2), .int .i64 ((rd_T31 t243 a1).f3), .int .i64 0, .int .i64 0, .int .i64 0, .string (⟨#[]⟩ : ByteArray)]) ?_ 4 _ rfl; (with_reducible repeat (first | refine blk_drewN ?_ _ | refine blk_drew ?_ | refine blk_alloc ?_ _)); refine blk_put (cs := #[.int .i64 ((rd_T31 t243 a1).f0), .int .i64 ((rd_T31 t243 a1).f1), .int .i64 ((rd_T31 t243 a1).f2), .int .i64 0, .int .i64 0, .int .i64 0, .int .i64 0, .string (⟨#[]⟩ : ByteArray)]) ?_ 3 _ rfl; (with_reducible repeat (first | refine blk_drewN ?_ _ | refine blk_drew ?_ | refine blk_alloc ?_ _)); refine blk_put (cs := #[.int .i64 ((rd_T31 t243 a1).f0), .int .i64 ((rd_T31 t243 a1).f1), .int .i64 0, .int .i64 0, .int .i64 0, .int .i64 0, .int .i64 0, .string (⟨#[]⟩ : ByteArray)]) ?_ 2 _ rfl; (with_reducible repeat (first | refine blk_drewN ?_ _ | refine blk_drew ?_ | refine blk_alloc ?_ _)); refine blk_put (cs := #[.int .i64 ((rd_T31 t243 a1).f0), .int .i64 0, .int .i64 0, .int .i64 0, .int .i64 0, .int .i64 0, .int .i64 0, .string (⟨#[]⟩ : ByteArray)]) ?_ 1 _ rfl; (with_reducible repeat (first | refine blk_drewN ?_ _ | refine blk_drew ?_ | refine blk_alloc ?_ _)); refine blk_put (cs := #[.int .i64 0, .int .i64 0, .int .i64 0, .int .i64 0, .int .i64 0, .int .i64 0, .int .i64 0, .string (⟨#[]⟩ : ByteArray)]) ?_ 0 _ rfl; (with_reducible repeat (first | refine blk_drewN ?_ _ | refine blk_drew ?_ | refine blk_alloc ?_ _)); exact BK242.out) Try.underlying31 rfl (by kernel_rfl) (.tmp .nil)))) rfl ?_
         exact ⟨_, by first | rfl | (simp [errW_none, errW_some] <;> rfl) | (simp [*, errW_none, errW_some] <;> rfl), Kd.V_mono (Kd.R_V (by (with_reducible repeat (first | apply Kd.R_alloc | apply Kd.R_drewN | apply Kd.R_drew)); exact Kd.R_mono (Kd.R_far (p := ⟨gb242, 7, none⟩) (Kd.R_far (p := ⟨gb242, 6, none⟩) (Kd.R_far (p := ⟨gb242, 5, none⟩) (Kd.R_far (p := ⟨gb242, 4, none⟩) (Kd.R_far (p := ⟨gb242, 3, none⟩) (Kd.R_far (p := ⟨gb242, 2, none⟩) (Kd.R_far (p := ⟨gb242, 1, none⟩) (Kd.R_far (p := ⟨gb242, 0, none⟩) (Kd.R_mono HO_7.out (fun k_ hk => (⟨hk, hk.2⟩ : _ ∧ k_ ≠ gb242))) (fun _ hk => hk.2) (.int .i64 ((rd_T31 t243 a1).f0))) (fun _ hk => hk.2) (.int .i64 ((rd_T31 t243 a1).f1))) (fun _ hk => hk.2) (.int .i64 ((rd_T31 t243 a1).f2))) (fun _ hk => hk.2) (.int .i64 ((rd_T31 t243 a1).f3))) (fun _ hk => hk.2) (.int .i64 ((rd_T31 t243 a1).f4))) (fun _ hk => hk.2) (.int .i64 ((rd_T31 t243 a1).f5))) (fun _ hk => hk.2) (.int .i64 ((rd_T31 t243 a1).f6))) (fun _ hk => hk.2) (.string ((rd_T31 t243 a1).f7))) (fun _ hk => hk.1.1))) (fun k_ hk => by first | exact ⟨(.inr (hk.1)), hk.2⟩ | exact (.inr (hk))), by repeat (first | (with_reducible first | exact HB.out | apply below_alloc | apply pw_below_drewN | apply below_drew1 | refine below_set ?_ GE242.out) | exact HB.out)⟩
        ·rw [if_neg c19] at H
         exact absurd H (by simp)
       ·rw [if_neg c18] at H
        exact absurd H (by simp)

end Go.Proofs.Ytodjglekfamaaaa.PNet
