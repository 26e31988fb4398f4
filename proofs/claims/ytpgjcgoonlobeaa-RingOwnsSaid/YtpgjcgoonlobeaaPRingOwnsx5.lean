-- PRINTED BY print.sh 35421559b90ae4d0a3588c463048766b98c2df88dd9212a6774a882060cdf62d: not written by this session
import Derived.Test.YtpgjcgoonlobeaaPRingOwnsx0
import Derived.Test.YtpgjcgoonlobeaaPRingOwnsx2
import Derived.Test.YtpgjcgoonlobeaaPRingOwnsx3
import Derived.Test.YtpgjcgoonlobeaaPRingOwnsx4
namespace Go.Proofs.Ytpgjcgoonlobeaa.PRingOwns
open Go.RowKit Go.Proofs.YtpgjcgoonlobeaaW.PrintWords Go.Proofs.YtpgjcgoonlobeaaW.PrintLast Go.Proofs.YtpgjcgoonlobeaaW.PrintMore
attribute [local go_sem] max2_int min2_int max_two min_two max_three min_three max_four min_four   -- for this text's walks alone
set_option linter.unusedVariables false
set_option linter.unusedSimpArgs false

/-! ### haywainlaw09_RingOwns: function 5 -/
mutual
def haywainlaw09_RingOwns.j0 : Nat → List Int → Int → Bool → Option (Bool)
  | 0, _, _, _ => none
  | k + 1, x0, x1, x44 => if x44 = true then (some false) else ((ring_Owner.f k x0 x1).bind fun bt179 => ((haywainref09_Right.f k x0).bind fun t181 => (if t181 = true then (if x1 < 0 then (haywainlaw09_RingOwns.j1 k x0 x1 bt179.1 bt179.2 true) else (haywainlaw09_RingOwns.j1 k x0 x1 bt179.1 bt179.2 (decide (x1 ≥ 6)))) else (haywainlaw09_RingOwns.j1 k x0 x1 bt179.1 bt179.2 true))))
def haywainlaw09_RingOwns.j1 : Nat → List Int → Int → Int → Int → Bool → Option (Bool)
  | 0, _, _, _, _, _ => none
  | k + 1, x0, x1, x11, x12, x61 => if x61 = true then (if x11 = 0 then (if x12 = 1 then ((haywainlaw09_knows.f k).bind fun t182 => (some t182)) else (some false)) else (some false)) else ((haywainref09_Owner.f k x0 x1).bind fun t183 => (if x11 = t183 then (if x12 = 0 then ((haywainlaw09_knows.f k).bind fun t184 => (some t184)) else (some false)) else (some false)))
end
def haywainlaw09_RingOwns.f (k : Nat) (l0 : List Int) (a1 : Int) (a2 : Int) : Option (Bool) := if (l0.length : Int) > 100 then ((haywainlaw09_knows.f k).bind fun t167 => (some t167)) else ((ring_Owners.f k l0 a2).bind fun bt168 => ((haywainref09_Owners.f k l0 a2).bind fun bt172 => ((haywainref09_SameInts.f k bt168.1 bt172.1).bind fun t176 => (if t176 = true then (if bt168.2 = bt172.2 then ((ring_Right.f k l0).bind fun t177 => ((haywainref09_Right.f k l0).bind fun t178 => (haywainlaw09_RingOwns.j0 k l0 a1 (t177 != t178)))) else (haywainlaw09_RingOwns.j0 k l0 a1 true)) else (haywainlaw09_RingOwns.j0 k l0 a1 true)))))
theorem haywainlaw09_RingOwns.mono_l : ∀ k, (∀ y0 y1 y2, LeO (haywainlaw09_RingOwns.j0 k y0 y1 y2) (haywainlaw09_RingOwns.j0 (k + 1) y0 y1 y2)) ∧ (∀ y0 y1 y2 y3 y4, LeO (haywainlaw09_RingOwns.j1 k y0 y1 y2 y3 y4) (haywainlaw09_RingOwns.j1 (k + 1) y0 y1 y2 y3 y4))
  | 0 => ⟨fun _ _ _ r h => by simp [haywainlaw09_RingOwns.j0] at h, fun _ _ _ _ _ r h => by simp [haywainlaw09_RingOwns.j1] at h⟩
  | k + 1 => by
    obtain ⟨ih0, ih1⟩ := haywainlaw09_RingOwns.mono_l k
    refine ⟨?_, ?_⟩
    · intro y0 y1 y2
      unfold haywainlaw09_RingOwns.j0
      repeat' first
      | (with_reducible exact ih0 _ _ _)
      | (with_reducible exact ih1 _ _ _ _ _)
      | (with_reducible exact haywainlaw09_knows.mono _)
      | (with_reducible exact haywainref09_Owner.mono _ _ _)
      | (with_reducible exact haywainref09_Owners.mono _ _ _)
      | (with_reducible exact haywainref09_Right.mono _ _)
      | (with_reducible exact haywainref09_SameInts.mono _ _ _)
      | (with_reducible exact ring_Owner.mono _ _ _)
      | (with_reducible exact ring_Owners.mono _ _ _)
      | (with_reducible exact ring_Right.mono _ _)
      | (with_reducible exact LeO.refl _)
      | (with_reducible exact LeO.none _)
      | (with_reducible refine LeO.ite ?_ ?_)
      | (with_reducible refine LeO.bind ?_ (fun _ => ?_))
      | exact ih0 _ _ _
      | exact ih1 _ _ _ _ _
      | exact haywainlaw09_knows.mono _
      | exact haywainref09_Owner.mono _ _ _
      | exact haywainref09_Owners.mono _ _ _
      | exact haywainref09_Right.mono _ _
      | exact haywainref09_SameInts.mono _ _ _
      | exact ring_Owner.mono _ _ _
      | exact ring_Owners.mono _ _ _
      | exact ring_Right.mono _ _
      | exact LeO.none _
      | refine LeO.ite ?_ ?_
      | refine LeO.bind ?_ (fun _ => ?_)
    · intro y0 y1 y2 y3 y4
      unfold haywainlaw09_RingOwns.j1
      repeat' first
      | (with_reducible exact ih0 _ _ _)
      | (with_reducible exact ih1 _ _ _ _ _)
      | (with_reducible exact haywainlaw09_knows.mono _)
      | (with_reducible exact haywainref09_Owner.mono _ _ _)
      | (with_reducible exact haywainref09_Owners.mono _ _ _)
      | (with_reducible exact haywainref09_Right.mono _ _)
      | (with_reducible exact haywainref09_SameInts.mono _ _ _)
      | (with_reducible exact ring_Owner.mono _ _ _)
      | (with_reducible exact ring_Owners.mono _ _ _)
      | (with_reducible exact ring_Right.mono _ _)
      | (with_reducible exact LeO.refl _)
      | (with_reducible exact LeO.none _)
      | (with_reducible refine LeO.ite ?_ ?_)
      | (with_reducible refine LeO.bind ?_ (fun _ => ?_))
      | exact ih0 _ _ _
      | exact ih1 _ _ _ _ _
      | exact haywainlaw09_knows.mono _
      | exact haywainref09_Owner.mono _ _ _
      | exact haywainref09_Owners.mono _ _ _
      | exact haywainref09_Right.mono _ _
      | exact haywainref09_SameInts.mono _ _ _
      | exact ring_Owner.mono _ _ _
      | exact ring_Owners.mono _ _ _
      | exact ring_Right.mono _ _
      | exact LeO.none _
      | refine LeO.ite ?_ ?_
      | refine LeO.bind ?_ (fun _ => ?_)
theorem haywainlaw09_RingOwns.mono : ∀ a0 a1 a2 k, LeO (haywainlaw09_RingOwns.f k a0 a1 a2) (haywainlaw09_RingOwns.f (k + 1) a0 a1 a2) := by
  intro a0 a1 a2 k
  obtain ⟨ih0, ih1⟩ := haywainlaw09_RingOwns.mono_l k
  unfold haywainlaw09_RingOwns.f
  repeat' first
      | (with_reducible exact ih0 _ _ _)
      | (with_reducible exact ih1 _ _ _ _ _)
      | (with_reducible exact haywainlaw09_knows.mono _)
      | (with_reducible exact haywainref09_Owner.mono _ _ _)
      | (with_reducible exact haywainref09_Owners.mono _ _ _)
      | (with_reducible exact haywainref09_Right.mono _ _)
      | (with_reducible exact haywainref09_SameInts.mono _ _ _)
      | (with_reducible exact ring_Owner.mono _ _ _)
      | (with_reducible exact ring_Owners.mono _ _ _)
      | (with_reducible exact ring_Right.mono _ _)
      | (with_reducible exact LeO.refl _)
      | (with_reducible exact LeO.none _)
      | (with_reducible refine LeO.ite ?_ ?_)
      | (with_reducible refine LeO.bind ?_ (fun _ => ?_))
      | exact ih0 _ _ _
      | exact ih1 _ _ _ _ _
      | exact haywainlaw09_knows.mono _
      | exact haywainref09_Owner.mono _ _ _
      | exact haywainref09_Owners.mono _ _ _
      | exact haywainref09_Right.mono _ _
      | exact haywainref09_SameInts.mono _ _ _
      | exact ring_Owner.mono _ _ _
      | exact ring_Owners.mono _ _ _
      | exact ring_Right.mono _ _
      | exact LeO.none _
      | refine LeO.ite ?_ ?_
      | refine LeO.bind ?_ (fun _ => ?_)
set_option maxHeartbeats 8000000 in
set_option maxRecDepth 100000 in
theorem haywainlaw09_RingOwns.calls (k : Nat) (A0 : Option Addr) (c0 : Nat) (l0 : List Int) (a1 : Int) (a2 : Int) (r : Bool) (w : World) (hr0 : Kd.C (Kd.int .i64) w A0 l0.length l0) (hc0 : l0.length ≤ c0) (h : haywainlaw09_RingOwns.f k l0 a1 a2 = some r) :
    Calls Try.prog 5 #[.slice A0 l0.length c0, .int .i64 a1, .int .i64 a2] w fun e w' => e = .returned (.bool r) ∧ Below w.heap.size w w' := by
  have HR0 := Aside0.mk hr0
  have HC0 := Aside0.mk hc0
  clear hr0 hc0
  have HB := Aside0.mk (Below.refl w.heap.size w)
  have H : (if (l0.length : Int) > 100 then ((haywainlaw09_knows.f k).bind fun t167 => (some t167)) else ((ring_Owners.f k l0 a2).bind fun bt168 => ((haywainref09_Owners.f k l0 a2).bind fun bt172 => ((haywainref09_SameInts.f k bt168.1 bt172.1).bind fun t176 => (if t176 = true then (if bt168.2 = bt172.2 then ((ring_Right.f k l0).bind fun t177 => ((haywainref09_Right.f k l0).bind fun t178 => (haywainlaw09_RingOwns.j0 k l0 a1 (t177 != t178)))) else (haywainlaw09_RingOwns.j0 k l0 a1 true)) else (haywainlaw09_RingOwns.j0 k l0 a1 true)))))) = some r := h
  clear h
  by_cases c4 : (l0.length : Int) > 100
  · rw [if_pos c4] at H
    have c4b0 : decide (100 < (l0.length : Int)) = true := decide_eq_true c4
    have c4b1 : decide (100 < l0.length) = true := decide_eq_true (by omega)
    clear c4
    replace H := Option.bind_eq_some_iff.mp H
    obtain ⟨t167, A50, H⟩ := H
    replace H : (some t167) = some r := H
    have A5 := Aside0.mk A50
    clear A50
    obtain rfl := Option.some.inj H
    go_enter Try.func5, Try.ntmps5
    go_wp2_with (first | ((with_reducible refine gate_callee (f := 11) rfl ?_); refine goesL_ (some 16) rfl rfl Try.func11 (by kernel_rfl) rfl #[] rfl (by (try simp only [List.map_toArray, List.map_cons, List.map_nil]); first | done | rfl | (simp only [List.length_drop, List.length_take]; rfl)) ?_; (with_reducible refine (haywainlaw09_knows.calls k  t167 _ A5.out).mono ?_); rintro e w6 ⟨rfl, hb⟩; refine ⟨_, rfl, ?_⟩; have n0_ := Aside0.mk (below_step (by repeat (first | (with_reducible first | exact HB.out | apply below_alloc | apply pw_below_drewN | apply below_drew1) | exact HB.out)) hb); clear HB; have HB := n0_; clear n0_; (try clear hb); (try clear hb2); (try clear hk); (try clear hi)))
    go_ret
    exact ⟨by first | rfl | (simp [errW_none, errW_some] <;> rfl) | (simp [*, errW_none, errW_some] <;> rfl), by repeat (first | (with_reducible first | exact HB.out | apply below_alloc | apply pw_below_drewN | apply below_drew1) | exact HB.out)⟩
  · rw [if_neg c4] at H
    have c4b0 : decide (100 < (l0.length : Int)) = false := decide_eq_false c4
    have c4b1 : decide (100 < l0.length) = false := decide_eq_false (by omega)
    clear c4
    replace H := Option.bind_eq_some_iff.mp H
    obtain ⟨⟨t168, t169⟩, A70, H⟩ := H
    replace H : ((haywainref09_Owners.f k l0 a2).bind fun bt172 => ((haywainref09_SameInts.f k t168 bt172.1).bind fun t176 => (if t176 = true then (if t169 = bt172.2 then ((ring_Right.f k l0).bind fun t177 => ((haywainref09_Right.f k l0).bind fun t178 => (haywainlaw09_RingOwns.j0 k l0 a1 (t177 != t178)))) else (haywainlaw09_RingOwns.j0 k l0 a1 true)) else (haywainlaw09_RingOwns.j0 k l0 a1 true)))) = some r := H
    have A7 := Aside0.mk A70
    clear A70
    replace H := Option.bind_eq_some_iff.mp H
    obtain ⟨⟨t172, t173⟩, A80, H⟩ := H
    replace H : ((haywainref09_SameInts.f k t168 t172).bind fun t176 => (if t176 = true then (if t169 = t173 then ((ring_Right.f k l0).bind fun t177 => ((haywainref09_Right.f k l0).bind fun t178 => (haywainlaw09_RingOwns.j0 k l0 a1 (t177 != t178)))) else (haywainlaw09_RingOwns.j0 k l0 a1 true)) else (haywainlaw09_RingOwns.j0 k l0 a1 true))) = some r := H
    have A8 := Aside0.mk A80
    clear A80
    have HC9 := Aside0.mk H
    clear H
    go_enter Try.func5, Try.ntmps5
    go_upto_region 5 with (first | ((with_reducible refine gate_callee (f := 16) rfl ?_); refine goesL_ (some 20) rfl rfl Try.func16 (by kernel_rfl) rfl #[.slice A0 l0.length c0, .int .i64 a2] rfl (by (try simp only [List.map_toArray, List.map_cons, List.map_nil]); first | done | rfl | (simp only [List.length_drop, List.length_take]; rfl)) ?_; (with_reducible refine (ring_Owners.calls k _ _ l0 a2 t168 t169 _ ?side1 ?side2 A7.out).mono ?_); (case side1 => repeat (first | exact HR0.out | (with_reducible refine Kd.C_alloc ?_ _) | (with_reducible refine Kd.C_drewN ?_ _) | (with_reducible refine Kd.C_drew ?_))); (case side2 => exact HC0.out); rintro e w10 ⟨v170, rfl, ho0, hb⟩; refine ⟨_, rfl, ?_⟩; have n0_ := Aside0.mk (Kd.R_lower ho0 (below_size (by repeat (first | (with_reducible first | exact HB.out | apply below_alloc | apply pw_below_drewN | apply below_drew1) | exact HB.out)))); have n1_ := Aside0.mk (below_step (by repeat (first | (with_reducible first | exact HB.out | apply below_alloc | apply pw_below_drewN | apply below_drew1) | exact HB.out)) hb); clear HB; have HO171 := n0_; have HB := n1_; clear n0_ n1_; (try clear hb); (try clear hb2); (try clear hk); (try clear hi); (try clear ho0)) | ((with_reducible refine gate_callee (f := 17) rfl ?_); refine goesL_ (some 26) rfl rfl Try.func17 (by kernel_rfl) rfl #[.slice A0 l0.length c0, .int .i64 a2] rfl (by (try simp only [List.map_toArray, List.map_cons, List.map_nil]); first | done | rfl | (simp only [List.length_drop, List.length_take]; rfl)) ?_; (with_reducible refine (haywainref09_Owners.calls k _ _ l0 a2 t172 t173 _ ?side1 ?side2 A8.out).mono ?_); (case side1 => repeat (first | exact (Kd.C_below HR0.out HB.out) | (with_reducible refine Kd.C_alloc ?_ _) | (with_reducible refine Kd.C_drewN ?_ _) | (with_reducible refine Kd.C_drew ?_))); (case side2 => exact HC0.out); rintro e w11 ⟨v174, rfl, ho0, hb⟩; refine ⟨_, rfl, ?_⟩; have n0_ := Aside0.mk (Kd.R_elder' (by (with_reducible repeat (first | apply Kd.R_alloc | apply Kd.R_drewN | apply Kd.R_drew)); exact HO171.out) (Kd.R_base ho0) hb); have n1_ := Aside0.mk (Kd.R_lower (Kd.R_new' ho0 (Kd.R_lt (by (with_reducible repeat (first | apply Kd.R_alloc | apply Kd.R_drewN | apply Kd.R_drew)); exact HO171.out))) (below_size (by repeat (first | (with_reducible first | exact HB.out | apply below_alloc | apply pw_below_drewN | apply below_drew1) | exact HB.out)))); have n2_ := Aside0.mk (below_step (by repeat (first | (with_reducible first | exact HB.out | apply below_alloc | apply pw_below_drewN | apply below_drew1) | exact HB.out)) hb); clear HO171; clear HB; have HO171 := n0_; have HO175 := n1_; have HB := n2_; clear n0_ n1_ n2_; (try clear hb); (try clear hb2); (try clear hk); (try clear hi); (try clear ho0)))
    (try simp only [Act.put, List.setIfInBounds_toArray, List.set_cons_zero, List.set_cons_succ])
    go_cut [44] (fun v44 wc => ∃ (kq : Nat) (x44_8 : Bool), v44 = .bool x44_8 ∧ Aside0 (haywainlaw09_RingOwns.j0 kq l0 a1 x44_8 = some r) ∧ Aside0 (kq ≤ k) ∧ Aside0 (Below w.heap.size w wc))
    case first =>
      have H := HC9.out
      clear HC9
      replace H := Option.bind_eq_some_iff.mp H
      obtain ⟨t176, A120, H⟩ := H
      replace H : (if t176 = true then (if t169 = t173 then ((ring_Right.f k l0).bind fun t177 => ((haywainref09_Right.f k l0).bind fun t178 => (haywainlaw09_RingOwns.j0 k l0 a1 (t177 != t178)))) else (haywainlaw09_RingOwns.j0 k l0 a1 true)) else (haywainlaw09_RingOwns.j0 k l0 a1 true)) = some r := H
      have A12 := Aside0.mk A120
      clear A120
      by_cases c13 : t176 = true
      · subst c13
        have H1 : (if t169 = t173 then ((ring_Right.f k l0).bind fun t177 => ((haywainref09_Right.f k l0).bind fun t178 => (haywainlaw09_RingOwns.j0 k l0 a1 (t177 != t178)))) else (haywainlaw09_RingOwns.j0 k l0 a1 true)) = some r := by rw [if_pos rfl] at H; exact H
        clear H
        have H := H1
        clear H1
        by_cases c14 : t169 = t173
        · rw [if_pos c14] at H
          have c14b0 : (t169 == t173) = true := beq_iff_eq.mpr c14
          have c14b1 : (t169 != t173) = false := bne_eq_false_iff_eq.mpr c14
          clear c14
          (first | rw [c14b0] | (simp only [i64_w, i32_w]; rw [c14b0]) | skip)
          replace H := Option.bind_eq_some_iff.mp H
          obtain ⟨t177, A150, H⟩ := H
          replace H : ((haywainref09_Right.f k l0).bind fun t178 => (haywainlaw09_RingOwns.j0 k l0 a1 (t177 != t178))) = some r := H
          have A15 := Aside0.mk A150
          clear A150
          replace H := Option.bind_eq_some_iff.mp H
          obtain ⟨t178, A160, H⟩ := H
          replace H : (haywainlaw09_RingOwns.j0 k l0 a1 (t177 != t178)) = some r := H
          have A16 := Aside0.mk A160
          clear A160
          have H' := Aside0.mk H
          clear H
          obtain ⟨Ao17, co17, eo17⟩ := Kd.R_slice HO171.out
          subst eo17
          obtain ⟨Ao18, co18, eo18⟩ := Kd.R_slice HO175.out
          subst eo18
          go_wp2_with (first | ((with_reducible refine gate_callee (f := 18) rfl ?_); refine goesL_ (some 31) rfl rfl Try.func18 (by kernel_rfl) rfl #[.slice Ao17 t168.length co17, .slice Ao18 t172.length co18] rfl (by (try simp only [List.map_toArray, List.map_cons, List.map_nil]); first | done | rfl | (simp only [List.length_drop, List.length_take]; rfl)) ?_; (with_reducible refine (haywainref09_SameInts.calls k _ _ t168 _ _ t172 true _ ?side1 ?side2 ?side3 ?side4 A12.out).mono ?_); (case side1 => repeat (first | exact (Kd.R_reads' HO171.out).2.2 | (with_reducible refine Kd.C_alloc ?_ _) | (with_reducible refine Kd.C_drewN ?_ _) | (with_reducible refine Kd.C_drew ?_))); (case side2 => exact (Kd.R_reads' HO171.out).2.1); (case side3 => repeat (first | exact (Kd.R_reads' HO175.out).2.2 | (with_reducible refine Kd.C_alloc ?_ _) | (with_reducible refine Kd.C_drewN ?_ _) | (with_reducible refine Kd.C_drew ?_))); (case side4 => exact (Kd.R_reads' HO175.out).2.1); rintro e w' ⟨rfl, ⟨nd, rfl⟩⟩; refine ⟨_, rfl, ?_⟩) | (go_at_call 19; (with_reducible refine (ring_Right.calls k _ _ l0 t177 _ ?side1 ?side2 A15.out).mono ?_); (case side1 => repeat (first | exact (Kd.C_below HR0.out (by repeat (first | (with_reducible first | exact HB.out | apply below_alloc | apply pw_below_drewN | apply below_drew1) | exact HB.out))) | (with_reducible refine Kd.C_alloc ?_ _) | (with_reducible refine Kd.C_drewN ?_ _) | (with_reducible refine Kd.C_drew ?_))); (case side2 => exact HC0.out); rintro e w' ⟨rfl, ⟨nd, rfl⟩⟩) | (go_at_call 20; (with_reducible refine (haywainref09_Right.calls k _ _ l0 t178 _ ?side1 ?side2 A16.out).mono ?_); (case side1 => repeat (first | exact (Kd.C_below HR0.out (by repeat (first | (with_reducible first | exact HB.out | apply below_alloc | apply pw_below_drewN | apply below_drew1) | exact HB.out))) | (with_reducible refine Kd.C_alloc ?_ _) | (with_reducible refine Kd.C_drewN ?_ _) | (with_reducible refine Kd.C_drew ?_))); (case side2 => exact HC0.out); rintro e w' ⟨rfl, ⟨nd, rfl⟩⟩))
          go_meet
          case rel => exact ⟨_, ((t177 != t178)), (by first | rfl | (simp; done) | (simp [*]; done)), H', ⟨by first | omega | exact Nat.le_refl _⟩, ⟨by repeat (first | (with_reducible first | exact HB.out | apply below_alloc | apply pw_below_drewN | apply below_drew1) | exact HB.out)⟩⟩
        · rw [if_neg c14] at H
          have c14b0 : (t169 == t173) = false := beq_eq_false_iff_ne.mpr c14
          have c14b1 : (t169 != t173) = true := bne_iff_ne.mpr c14
          (first | rw [c14b0] | (simp only [i64_w, i32_w]; rw [c14b0]) | skip)
          have H' := Aside0.mk H
          clear H
          obtain ⟨Ao19, co19, eo19⟩ := Kd.R_slice HO171.out
          subst eo19
          obtain ⟨Ao20, co20, eo20⟩ := Kd.R_slice HO175.out
          subst eo20
          go_wp2_with (first | ((with_reducible refine gate_callee (f := 18) rfl ?_); refine goesL_ (some 31) rfl rfl Try.func18 (by kernel_rfl) rfl #[.slice Ao19 t168.length co19, .slice Ao20 t172.length co20] rfl (by (try simp only [List.map_toArray, List.map_cons, List.map_nil]); first | done | rfl | (simp only [List.length_drop, List.length_take]; rfl)) ?_; (with_reducible refine (haywainref09_SameInts.calls k _ _ t168 _ _ t172 true _ ?side1 ?side2 ?side3 ?side4 A12.out).mono ?_); (case side1 => repeat (first | exact (Kd.R_reads' HO171.out).2.2 | (with_reducible refine Kd.C_alloc ?_ _) | (with_reducible refine Kd.C_drewN ?_ _) | (with_reducible refine Kd.C_drew ?_))); (case side2 => exact (Kd.R_reads' HO171.out).2.1); (case side3 => repeat (first | exact (Kd.R_reads' HO175.out).2.2 | (with_reducible refine Kd.C_alloc ?_ _) | (with_reducible refine Kd.C_drewN ?_ _) | (with_reducible refine Kd.C_drew ?_))); (case side4 => exact (Kd.R_reads' HO175.out).2.1); rintro e w' ⟨rfl, ⟨nd, rfl⟩⟩; refine ⟨_, rfl, ?_⟩))
          go_meet
          case rel => exact ⟨_, (true), (by first | rfl | (simp; done) | (simp [*]; done)), H', ⟨by first | omega | exact Nat.le_refl _⟩, ⟨by repeat (first | (with_reducible first | exact HB.out | apply below_alloc | apply pw_below_drewN | apply below_drew1) | exact HB.out)⟩⟩
      · replace c13 := Bool.eq_false_iff.mpr c13
        subst c13
        have H1 : (haywainlaw09_RingOwns.j0 k l0 a1 true) = some r := by rw [if_neg (show ¬ (false = true) by decide)] at H; exact H
        clear H
        have H := H1
        clear H1
        have H' := Aside0.mk H
        clear H
        obtain ⟨Ao21, co21, eo21⟩ := Kd.R_slice HO171.out
        subst eo21
        obtain ⟨Ao22, co22, eo22⟩ := Kd.R_slice HO175.out
        subst eo22
        go_wp2_with (first | ((with_reducible refine gate_callee (f := 18) rfl ?_); refine goesL_ (some 31) rfl rfl Try.func18 (by kernel_rfl) rfl #[.slice Ao21 t168.length co21, .slice Ao22 t172.length co22] rfl (by (try simp only [List.map_toArray, List.map_cons, List.map_nil]); first | done | rfl | (simp only [List.length_drop, List.length_take]; rfl)) ?_; (with_reducible refine (haywainref09_SameInts.calls k _ _ t168 _ _ t172 false _ ?side1 ?side2 ?side3 ?side4 A12.out).mono ?_); (case side1 => repeat (first | exact (Kd.R_reads' HO171.out).2.2 | (with_reducible refine Kd.C_alloc ?_ _) | (with_reducible refine Kd.C_drewN ?_ _) | (with_reducible refine Kd.C_drew ?_))); (case side2 => exact (Kd.R_reads' HO171.out).2.1); (case side3 => repeat (first | exact (Kd.R_reads' HO175.out).2.2 | (with_reducible refine Kd.C_alloc ?_ _) | (with_reducible refine Kd.C_drewN ?_ _) | (with_reducible refine Kd.C_drew ?_))); (case side4 => exact (Kd.R_reads' HO175.out).2.1); rintro e w' ⟨rfl, ⟨nd, rfl⟩⟩; refine ⟨_, rfl, ?_⟩))
        go_meet
        case rel => exact ⟨_, (true), (by first | rfl | (simp; done) | (simp [*]; done)), H', ⟨by first | omega | exact Nat.le_refl _⟩, ⟨by repeat (first | (with_reducible first | exact HB.out | apply below_alloc | apply pw_below_drewN | apply below_drew1) | exact HB.out)⟩⟩
    case rest =>
      clear HC9
      try clear c1
      try clear p2
      try clear c4
      try clear c4b0
      try clear c4b1
      try clear c5
      try clear c11
      try clear c13
      try clear c14
      try clear c14b0
      try clear c14b1
      try clear c16
      try clear c17
      try clear c18
      obtain ⟨kq, x44_8, rfl, HA, HJ8, HB⟩ := hcut
      cases kq with
      | zero => exact absurd HA.out (by simp [haywainlaw09_RingOwns.j0])
      | succ kj8 =>
        have H := HA.out
        clear HA
        simp only [haywainlaw09_RingOwns.j0] at H
        by_cases c23 : x44_8 = true
        · subst c23
          have H1 : (some false) = some r := by rw [if_pos rfl] at H; exact H
          clear H
          have H := H1
          clear H1
          obtain rfl := Option.some.inj H
          go_wp2
          go_ret
          exact ⟨by first | rfl | (simp [errW_none, errW_some] <;> rfl) | (simp [*, errW_none, errW_some] <;> rfl), by repeat (first | (with_reducible first | exact HB.out | apply below_alloc | apply pw_below_drewN | apply below_drew1) | exact HB.out)⟩
        · replace c23 := Bool.eq_false_iff.mpr c23
          subst c23
          have H1 : ((ring_Owner.f kj8 l0 a1).bind fun bt179 => ((haywainref09_Right.f kj8 l0).bind fun t181 => (if t181 = true then (if a1 < 0 then (haywainlaw09_RingOwns.j1 kj8 l0 a1 bt179.1 bt179.2 true) else (haywainlaw09_RingOwns.j1 kj8 l0 a1 bt179.1 bt179.2 (decide (a1 ≥ 6)))) else (haywainlaw09_RingOwns.j1 kj8 l0 a1 bt179.1 bt179.2 true)))) = some r := by rw [if_neg (show ¬ (false = true) by decide)] at H; exact H
          clear H
          have H := H1
          clear H1
          replace H := Option.bind_eq_some_iff.mp H
          obtain ⟨⟨t179, t180⟩, A240, H⟩ := H
          replace H : ((haywainref09_Right.f kj8 l0).bind fun t181 => (if t181 = true then (if a1 < 0 then (haywainlaw09_RingOwns.j1 kj8 l0 a1 t179 t180 true) else (haywainlaw09_RingOwns.j1 kj8 l0 a1 t179 t180 (decide (a1 ≥ 6)))) else (haywainlaw09_RingOwns.j1 kj8 l0 a1 t179 t180 true))) = some r := H
          have A24 := Aside0.mk A240
          clear A240
          have HC25 := Aside0.mk H
          clear H
          go_upto_region 8 with (first | ((with_reducible refine gate_callee (f := 21) rfl ?_); refine goesL_ (some 48) rfl rfl Try.func21 (by kernel_rfl) rfl #[.slice A0 l0.length c0, .int .i64 a1] rfl (by (try simp only [List.map_toArray, List.map_cons, List.map_nil]); first | done | rfl | (simp only [List.length_drop, List.length_take]; rfl)) ?_; (with_reducible refine (ring_Owner.calls kj8 _ _ l0 a1 t179 t180 _ ?side1 ?side2 A24.out).mono ?_); (case side1 => repeat (first | exact (Kd.C_below HR0.out HB.out) | (with_reducible refine Kd.C_alloc ?_ _) | (with_reducible refine Kd.C_drewN ?_ _) | (with_reducible refine Kd.C_drew ?_))); (case side2 => exact HC0.out); rintro e w26 ⟨rfl, hb⟩; refine ⟨_, rfl, ?_⟩; have n0_ := Aside0.mk (below_step (by repeat (first | (with_reducible first | exact HB.out | apply below_alloc | apply pw_below_drewN | apply below_drew1) | exact HB.out)) hb); clear HB; have HB := n0_; clear n0_; (try clear hb); (try clear hb2); (try clear hk); (try clear hi)))
          (try simp only [Act.put, List.setIfInBounds_toArray, List.set_cons_zero, List.set_cons_succ])
          go_cut [61] (fun v61 wc => ∃ (kq : Nat) (x61_24 : Bool), v61 = .bool x61_24 ∧ Aside0 (haywainlaw09_RingOwns.j1 kq l0 a1 t179 t180 x61_24 = some r) ∧ Aside0 (kq ≤ kj8) ∧ Aside0 (Below w.heap.size w wc))
          case first =>
            have H := HC25.out
            clear HC25
            replace H := Option.bind_eq_some_iff.mp H
            obtain ⟨t181, A270, H⟩ := H
            replace H : (if t181 = true then (if a1 < 0 then (haywainlaw09_RingOwns.j1 kj8 l0 a1 t179 t180 true) else (haywainlaw09_RingOwns.j1 kj8 l0 a1 t179 t180 (decide (a1 ≥ 6)))) else (haywainlaw09_RingOwns.j1 kj8 l0 a1 t179 t180 true)) = some r := H
            have A27 := Aside0.mk A270
            clear A270
            by_cases c28 : t181 = true
            · subst c28
              have H1 : (if a1 < 0 then (haywainlaw09_RingOwns.j1 kj8 l0 a1 t179 t180 true) else (haywainlaw09_RingOwns.j1 kj8 l0 a1 t179 t180 (decide (a1 ≥ 6)))) = some r := by rw [if_pos rfl] at H; exact H
              clear H
              have H := H1
              clear H1
              by_cases c29 : a1 < 0
              · rw [if_pos c29] at H
                have c29b0 : decide (a1 < 0) = true := decide_eq_true c29
                clear c29
                (first | rw [c29b0] | (simp only [i64_w, i32_w]; rw [c29b0]) | skip)
                have H' := Aside0.mk H
                clear H
                go_wp2_with (first | ((with_reducible refine gate_callee (f := 20) rfl ?_); refine goesL_ (some 52) rfl rfl Try.func20 (by kernel_rfl) rfl #[.slice A0 l0.length c0] rfl (by (try simp only [List.map_toArray, List.map_cons, List.map_nil]); first | done | rfl | (simp only [List.length_drop, List.length_take]; rfl)) ?_; (with_reducible refine (haywainref09_Right.calls kj8 _ _ l0 true _ ?side1 ?side2 A27.out).mono ?_); (case side1 => repeat (first | exact (Kd.C_below HR0.out HB.out) | (with_reducible refine Kd.C_alloc ?_ _) | (with_reducible refine Kd.C_drewN ?_ _) | (with_reducible refine Kd.C_drew ?_))); (case side2 => exact HC0.out); rintro e w' ⟨rfl, ⟨nd, rfl⟩⟩; refine ⟨_, rfl, ?_⟩))
                go_meet
                case rel => exact ⟨_, (true), (by first | rfl | (simp; done) | (simp [*]; done)), H', ⟨by have := HJ8.out; first | omega | exact Nat.le_refl _⟩, ⟨by repeat (first | (with_reducible first | exact HB.out | apply below_alloc | apply pw_below_drewN | apply below_drew1) | exact HB.out)⟩⟩
              · rw [if_neg c29] at H
                have c29b0 : decide (a1 < 0) = false := decide_eq_false c29
                clear c29
                (first | rw [c29b0] | (simp only [i64_w, i32_w]; rw [c29b0]) | skip)
                have H' := Aside0.mk H
                clear H
                go_wp2_with (first | ((with_reducible refine gate_callee (f := 20) rfl ?_); refine goesL_ (some 52) rfl rfl Try.func20 (by kernel_rfl) rfl #[.slice A0 l0.length c0] rfl (by (try simp only [List.map_toArray, List.map_cons, List.map_nil]); first | done | rfl | (simp only [List.length_drop, List.length_take]; rfl)) ?_; (with_reducible refine (haywainref09_Right.calls kj8 _ _ l0 true _ ?side1 ?side2 A27.out).mono ?_); (case side1 => repeat (first | exact (Kd.C_below HR0.out HB.out) | (with_reducible refine Kd.C_alloc ?_ _) | (with_reducible refine Kd.C_drewN ?_ _) | (with_reducible refine Kd.C_drew ?_))); (case side2 => exact HC0.out); rintro e w' ⟨rfl, ⟨nd, rfl⟩⟩; refine ⟨_, rfl, ?_⟩))
                go_meet
                case rel => exact ⟨_, (decide (a1 ≥ 6)), (by first | rfl | (simp; done) | (simp [*]; done)), H', ⟨by have := HJ8.out; first | omega | exact Nat.le_refl _⟩, ⟨by repeat (first | (with_reducible first | exact HB.out | apply below_alloc | apply pw_below_drewN | apply below_drew1) | exact HB.out)⟩⟩
            · replace c28 := Bool.eq_false_iff.mpr c28
              subst c28
              have H1 : (haywainlaw09_RingOwns.j1 kj8 l0 a1 t179 t180 true) = some r := by rw [if_neg (show ¬ (false = true) by decide)] at H; exact H
              clear H
              have H := H1
              clear H1
              have H' := Aside0.mk H
              clear H
              go_wp2_with (first | ((with_reducible refine gate_callee (f := 20) rfl ?_); refine goesL_ (some 52) rfl rfl Try.func20 (by kernel_rfl) rfl #[.slice A0 l0.length c0] rfl (by (try simp only [List.map_toArray, List.map_cons, List.map_nil]); first | done | rfl | (simp only [List.length_drop, List.length_take]; rfl)) ?_; (with_reducible refine (haywainref09_Right.calls kj8 _ _ l0 false _ ?side1 ?side2 A27.out).mono ?_); (case side1 => repeat (first | exact (Kd.C_below HR0.out HB.out) | (with_reducible refine Kd.C_alloc ?_ _) | (with_reducible refine Kd.C_drewN ?_ _) | (with_reducible refine Kd.C_drew ?_))); (case side2 => exact HC0.out); rintro e w' ⟨rfl, ⟨nd, rfl⟩⟩; refine ⟨_, rfl, ?_⟩))
              go_meet
              case rel => exact ⟨_, (true), (by first | rfl | (simp; done) | (simp [*]; done)), H', ⟨by have := HJ8.out; first | omega | exact Nat.le_refl _⟩, ⟨by repeat (first | (with_reducible first | exact HB.out | apply below_alloc | apply pw_below_drewN | apply below_drew1) | exact HB.out)⟩⟩
          case rest =>
            clear HC25
            try clear c1
            try clear c2
            try clear p2
            try clear c4
            try clear c4b0
            try clear c4b1
            try clear c5
            try clear c11
            try clear c13
            try clear c14
            try clear c14b0
            try clear c14b1
            try clear c16
            try clear c17
            try clear c18
            try clear c20
            try clear c21
            try clear c23
            try clear c28
            try clear c29
            try clear c29b0
            try clear p2
            obtain ⟨kq, x61_24, rfl, HA, HJ24, HB⟩ := hcut
            cases kq with
            | zero => exact absurd HA.out (by simp [haywainlaw09_RingOwns.j1])
            | succ kj24 =>
              have H := HA.out
              clear HA
              simp only [haywainlaw09_RingOwns.j1] at H
              by_cases c30 : x61_24 = true
              · subst c30
                have H1 : (if t179 = 0 then (if t180 = 1 then ((haywainlaw09_knows.f kj24).bind fun t182 => (some t182)) else (some false)) else (some false)) = some r := by rw [if_pos rfl] at H; exact H
                clear H
                have H := H1
                clear H1
                by_cases c31 : t179 = 0
                · rw [if_pos c31] at H
                  have c31b0 : (t179 == 0) = true := beq_iff_eq.mpr c31
                  have c31b1 : (t179 != 0) = false := bne_eq_false_iff_eq.mpr c31
                  clear c31
                  by_cases c32 : t180 = 1
                  · rw [if_pos c32] at H
                    have c32b0 : (t180 == 1) = true := beq_iff_eq.mpr c32
                    have c32b1 : (t180 != 1) = false := bne_eq_false_iff_eq.mpr c32
                    clear c32
                    replace H := Option.bind_eq_some_iff.mp H
                    obtain ⟨t182, A330, H⟩ := H
                    replace H : (some t182) = some r := H
                    have A33 := Aside0.mk A330
                    clear A330
                    obtain rfl := Option.some.inj H
                    go_wp2_with (first | (go_at_call 11; (with_reducible refine (haywainlaw09_knows.calls kj24  t182 _ A33.out).mono ?_); rintro e w34 ⟨rfl, hb⟩; have n0_ := Aside0.mk (below_step (by repeat (first | (with_reducible first | exact HB.out | apply below_alloc | apply pw_below_drewN | apply below_drew1) | exact HB.out)) hb); clear HB; have HB := n0_; clear n0_; (try clear hb); (try clear hb2); (try clear hk); (try clear hi)))
                    go_ret
                    exact ⟨by first | rfl | (simp [errW_none, errW_some] <;> rfl) | (simp [*, errW_none, errW_some] <;> rfl), by repeat (first | (with_reducible first | exact HB.out | apply below_alloc | apply pw_below_drewN | apply below_drew1) | exact HB.out)⟩
                  · rw [if_neg c32] at H
                    have c32b0 : (t180 == 1) = false := beq_eq_false_iff_ne.mpr c32
                    have c32b1 : (t180 != 1) = true := bne_iff_ne.mpr c32
                    obtain rfl := Option.some.inj H
                    go_wp2
                    go_ret
                    exact ⟨by first | rfl | (simp [errW_none, errW_some] <;> rfl) | (simp [*, errW_none, errW_some] <;> rfl), by repeat (first | (with_reducible first | exact HB.out | apply below_alloc | apply pw_below_drewN | apply below_drew1) | exact HB.out)⟩
                · rw [if_neg c31] at H
                  have c31b0 : (t179 == 0) = false := beq_eq_false_iff_ne.mpr c31
                  have c31b1 : (t179 != 0) = true := bne_iff_ne.mpr c31
                  obtain rfl := Option.some.inj H
                  go_wp2
                  go_ret
                  exact ⟨by first | rfl | (simp [errW_none, errW_some] <;> rfl) | (simp [*, errW_none, errW_some] <;> rfl), by repeat (first | (with_reducible first | exact HB.out | apply below_alloc | apply pw_below_drewN | apply below_drew1) | exact HB.out)⟩
              · replace c30 := Bool.eq_false_iff.mpr c30
                subst c30
                have H1 : ((haywainref09_Owner.f kj24 l0 a1).bind fun t183 => (if t179 = t183 then (if t180 = 0 then ((haywainlaw09_knows.f kj24).bind fun t184 => (some t184)) else (some false)) else (some false))) = some r := by rw [if_neg (show ¬ (false = true) by decide)] at H; exact H
                clear H
                have H := H1
                clear H1
                replace H := Option.bind_eq_some_iff.mp H
                obtain ⟨t183, A350, H⟩ := H
                replace H : (if t179 = t183 then (if t180 = 0 then ((haywainlaw09_knows.f kj24).bind fun t184 => (some t184)) else (some false)) else (some false)) = some r := H
                have A35 := Aside0.mk A350
                clear A350
                by_cases c36 : t179 = t183
                · rw [if_pos c36] at H
                  have c36b0 : (t179 == t183) = true := beq_iff_eq.mpr c36
                  have c36b1 : (t179 != t183) = false := bne_eq_false_iff_eq.mpr c36
                  clear c36
                  by_cases c37 : t180 = 0
                  · rw [if_pos c37] at H
                    have c37b0 : (t180 == 0) = true := beq_iff_eq.mpr c37
                    have c37b1 : (t180 != 0) = false := bne_eq_false_iff_eq.mpr c37
                    clear c37
                    replace H := Option.bind_eq_some_iff.mp H
                    obtain ⟨t184, A380, H⟩ := H
                    replace H : (some t184) = some r := H
                    have A38 := Aside0.mk A380
                    clear A380
                    obtain rfl := Option.some.inj H
                    go_wp2_with (first | ((with_reducible refine gate_callee (f := 22) rfl ?_); refine goesL_ (some 74) rfl rfl Try.func22 (by kernel_rfl) rfl #[.slice A0 l0.length c0, .int .i64 a1] rfl (by (try simp only [List.map_toArray, List.map_cons, List.map_nil]); first | done | rfl | (simp only [List.length_drop, List.length_take]; rfl)) ?_; (with_reducible refine (haywainref09_Owner.calls kj24 _ _ l0 a1 t183 _ ?side1 ?side2 A35.out).mono ?_); (case side1 => repeat (first | exact (Kd.C_below HR0.out HB.out) | (with_reducible refine Kd.C_alloc ?_ _) | (with_reducible refine Kd.C_drewN ?_ _) | (with_reducible refine Kd.C_drew ?_))); (case side2 => exact HC0.out); rintro e w' ⟨rfl, ⟨nd, rfl⟩⟩; refine ⟨_, rfl, ?_⟩) | (go_at_call 11; (with_reducible refine (haywainlaw09_knows.calls kj24  t184 _ A38.out).mono ?_); rintro e w39 ⟨rfl, hb⟩; have n0_ := Aside0.mk (below_step (by repeat (first | (with_reducible first | exact HB.out | apply below_alloc | apply pw_below_drewN | apply below_drew1) | exact HB.out)) hb); clear HB; have HB := n0_; clear n0_; (try clear hb); (try clear hb2); (try clear hk); (try clear hi)))
                    go_ret
                    exact ⟨by first | rfl | (simp [errW_none, errW_some] <;> rfl) | (simp [*, errW_none, errW_some] <;> rfl), by repeat (first | (with_reducible first | exact HB.out | apply below_alloc | apply pw_below_drewN | apply below_drew1) | exact HB.out)⟩
                  · rw [if_neg c37] at H
                    have c37b0 : (t180 == 0) = false := beq_eq_false_iff_ne.mpr c37
                    have c37b1 : (t180 != 0) = true := bne_iff_ne.mpr c37
                    obtain rfl := Option.some.inj H
                    go_wp2_with (first | ((with_reducible refine gate_callee (f := 22) rfl ?_); refine goesL_ (some 74) rfl rfl Try.func22 (by kernel_rfl) rfl #[.slice A0 l0.length c0, .int .i64 a1] rfl (by (try simp only [List.map_toArray, List.map_cons, List.map_nil]); first | done | rfl | (simp only [List.length_drop, List.length_take]; rfl)) ?_; (with_reducible refine (haywainref09_Owner.calls kj24 _ _ l0 a1 t183 _ ?side1 ?side2 A35.out).mono ?_); (case side1 => repeat (first | exact (Kd.C_below HR0.out HB.out) | (with_reducible refine Kd.C_alloc ?_ _) | (with_reducible refine Kd.C_drewN ?_ _) | (with_reducible refine Kd.C_drew ?_))); (case side2 => exact HC0.out); rintro e w' ⟨rfl, ⟨nd, rfl⟩⟩; refine ⟨_, rfl, ?_⟩))
                    go_ret
                    exact ⟨by first | rfl | (simp [errW_none, errW_some] <;> rfl) | (simp [*, errW_none, errW_some] <;> rfl), by repeat (first | (with_reducible first | exact HB.out | apply below_alloc | apply pw_below_drewN | apply below_drew1) | exact HB.out)⟩
                · rw [if_neg c36] at H
                  have c36b0 : (t179 == t183) = false := beq_eq_false_iff_ne.mpr c36
                  have c36b1 : (t179 != t183) = true := bne_iff_ne.mpr c36
                  obtain rfl := Option.some.inj H
                  go_wp2_with (first | ((with_reducible refine gate_callee (f := 22) rfl ?_); refine goesL_ (some 74) rfl rfl Try.func22 (by kernel_rfl) rfl #[.slice A0 l0.length c0, .int .i64 a1] rfl (by (try simp only [List.map_toArray, List.map_cons, List.map_nil]); first | done | rfl | (simp only [List.length_drop, List.length_take]; rfl)) ?_; (with_reducible refine (haywainref09_Owner.calls kj24 _ _ l0 a1 t183 _ ?side1 ?side2 A35.out).mono ?_); (case side1 => repeat (first | exact (Kd.C_below HR0.out HB.out) | (with_reducible refine Kd.C_alloc ?_ _) | (with_reducible refine Kd.C_drewN ?_ _) | (with_reducible refine Kd.C_drew ?_))); (case side2 => exact HC0.out); rintro e w' ⟨rfl, ⟨nd, rfl⟩⟩; refine ⟨_, rfl, ?_⟩))
                  go_ret
                  exact ⟨by first | rfl | (simp [errW_none, errW_some] <;> rfl) | (simp [*, errW_none, errW_some] <;> rfl), by repeat (first | (with_reducible first | exact HB.out | apply below_alloc | apply pw_below_drewN | apply below_drew1) | exact HB.out)⟩

/-- THE ONE PURE STATEMENT of haywainlaw09_RingOwns: yours. -/
def haywainlaw09_RingOwns.Pure : Prop := ∀ (l0 : List Int) (a1 : Int) (a2 : Int), l0.length ≤ maxLen → l0.length * 8 ≤ 140737488351232 → (∀ x ∈ l0, (Lit.int .i64 x).wf = true) → (Lit.int .i64 a1).wf = true → (Lit.int .i64 a2).wf = true → ∃ k, haywainlaw09_RingOwns.f k l0 a1 a2 = some true
theorem haywainlaw09_RingOwns.walk (P : haywainlaw09_RingOwns.Pure) (a0 : Option Addr) (len0 cap0 : Nat) (z0 : List Int) (a1 : Int) (a2 : Int) (w : World) (w0 : (a0 = none ∧ len0 = 0 ∧ cap0 = 0 ∧ z0 = []) ∨ ∃ x, a0 = some x ∧ len0 ≤ cap0 ∧ cap0 ≤ maxLen ∧ z0.length = cap0 ∧ (∀ i, i < z0.length → w.cell? (x.add i) = some (.int .i64 (z0.getD i 0))) ∧ ∀ n ∈ z0, (Lit.int .i64 n).wf = true) (y0 : len0 * 8 ≤ 140737488351232) (w1 : (Lit.int .i64 a1).wf = true) (w2 : (Lit.int .i64 a2).wf = true) :
    Calls Try.prog 5 #[.slice a0 len0 cap0, .int .i64 a1, .int .i64 a2] w fun e w' => e = .returned (.bool true) ∧ Below w.heap.size w w' := by
  obtain ⟨l0, rfl, hr0, hm0, hw0, hc0⟩ := ReadsInt.ofRowC w0
  obtain ⟨k, h⟩ := P l0 a1 a2 hm0 y0 hw0 w1 w2
  refine (haywainlaw09_RingOwns.calls k _ _ l0 a1 a2 true w (Kd.C_of_reads (d := (0 : Int)) (h1 := fun _ => rfl) hr0) hc0 h).mono ?_
  rintro e w' ⟨rfl, hd⟩
  exact ⟨rfl, hd⟩

end Go.Proofs.Ytpgjcgoonlobeaa.PRingOwns
