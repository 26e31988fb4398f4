-- Printed for this claim by a turned copy of the print (wip/tools/patch.py); a text of this session, not of print.sh.
import Derived.Test.YtodjglekfamaaaaPNetx0
import Derived.Test.YtodjglekfamaaaaPNetx3
import Derived.Test.YtodjglekfamaaaaPNetx4
namespace Go.Proofs.Ytodjglekfamaaaa.PNet
open Go.RowKit Go.Proofs.YtodjglekfamaaaaW.PrintWords Go.Proofs.YtodjglekfamaaaaW.PrintLast Go.Proofs.YtodjglekfamaaaaW.PrintMore
attribute [local go_sem] max2_int min2_int max_two min_two max_three min_three max_four min_four   -- for this text's walks alone
set_option linter.unusedVariables false
set_option linter.unusedSimpArgs false

/-! ### haywainlaw22_knows: function 9 -/
def haywainlaw22_knows.f (k : Nat)  : Option (Bool) := (haywainlaw22_one.f (⟨#[97]⟩ : ByteArray)).bind fun bt152 => ((haywainlaw22_one.f (⟨#[98]⟩ : ByteArray)).bind fun bt160 => ((net_Send.f k ([] : List (S23)) (([(⟨bt152.1, bt152.2.1, bt152.2.2.1, bt152.2.2.2.1, bt152.2.2.2.2.1, bt152.2.2.2.2.2.1, bt152.2.2.2.2.2.2.1, bt152.2.2.2.2.2.2.2⟩ : S23), (⟨bt160.1, bt160.2.1, bt160.2.2.1, bt160.2.2.2.1, bt160.2.2.2.2.1, bt160.2.2.2.2.2.1, bt160.2.2.2.2.2.2.1, bt160.2.2.2.2.2.2.2⟩ : S23), (⟨0, 0, 0, 0, 0, 0, 0, (⟨#[]⟩ : ByteArray)⟩ : S23)] : List (S23)))).bind fun bt171 => ((net_Twice.f k bt171.1 0).bind fun bt176 => ((net_Give.f k bt176.1 1).bind fun bt180 => ((net_Give.f k bt180.1 2).bind fun bt193 => (if bt171.2 = 2 then (if bt176.2 = 0 then (if bt180.2.2.2.2.2.2.2.2.1.toList = ([98] : List UInt8) then (if bt180.2.2.2.2.2.2.2.2.2 = 0 then (if (bt180.1.length : Int) = 2 then (if 1 < (bt180.1.length : Int) then (if ((rd_T23 bt180.1 1).f7).toList = ([97] : List UInt8) then (if bt193.2.2.2.2.2.2.2.2.2 = 4 then ((net_Right.f k bt180.1).bind fun t208 => (if t208 = true then ((haywainlaw22_one.f (⟨#[97]⟩ : ByteArray)).bind fun bt209 => ((net_Fair.f bt209.1 bt209.2.1 bt209.2.2.1 bt209.2.2.2.1 bt209.2.2.2.2.1 bt209.2.2.2.2.2.1 bt209.2.2.2.2.2.2.1 bt209.2.2.2.2.2.2.2).bind fun t217 => (some t217))) else (none))) else (none)) else (none)) else (none)) else (none)) else (none)) else (none)) else (none)) else (none)))))))
theorem haywainlaw22_knows.mono : ∀ k, LeO (haywainlaw22_knows.f k ) (haywainlaw22_knows.f (k + 1) ) := by
 intro  k
 unfold haywainlaw22_knows.f
 repeat' first
   | (with_reducible exact net_Give.mono _ _ _)
   | (with_reducible exact net_Right.mono _ _)
   | (with_reducible exact net_Send.mono _ _ _)
   | (with_reducible exact net_Twice.mono _ _ _)
   | (with_reducible exact LeO.refl _)
   | (with_reducible exact LeO.none _)
   | (with_reducible refine LeO.ite ?_ ?_)
   | (with_reducible refine LeO.bind ?_ (fun _ => ?_))
   | exact net_Give.mono _ _ _
   | exact net_Right.mono _ _
   | exact net_Send.mono _ _ _
   | exact net_Twice.mono _ _ _
   | exact LeO.none _
   | refine LeO.ite ?_ ?_
   | refine LeO.bind ?_ (fun _ => ?_)
set_option maxHeartbeats 8000000 in
set_option maxRecDepth 100000 in
theorem haywainlaw22_knows.calls (k : Nat)  (r : Bool) (w : World) (h : haywainlaw22_knows.f k  = some r) :
  Calls Try.prog 9 #[] w fun e w' => e = .returned (.bool r) ∧ Below w.heap.size w w' := by
 have hu26 := Try.underlying26
 have hu23 := Try.underlying23
 have HB := Aside0.mk (Below.refl w.heap.size w)
 have H : ((haywainlaw22_one.f (⟨#[97]⟩ : ByteArray)).bind fun bt152 => ((haywainlaw22_one.f (⟨#[98]⟩ : ByteArray)).bind fun bt160 => ((net_Send.f k ([] : List (S23)) (([(⟨bt152.1, bt152.2.1, bt152.2.2.1, bt152.2.2.2.1, bt152.2.2.2.2.1, bt152.2.2.2.2.2.1, bt152.2.2.2.2.2.2.1, bt152.2.2.2.2.2.2.2⟩ : S23), (⟨bt160.1, bt160.2.1, bt160.2.2.1, bt160.2.2.2.1, bt160.2.2.2.2.1, bt160.2.2.2.2.2.1, bt160.2.2.2.2.2.2.1, bt160.2.2.2.2.2.2.2⟩ : S23), (⟨0, 0, 0, 0, 0, 0, 0, (⟨#[]⟩ : ByteArray)⟩ : S23)] : List (S23)))).bind fun bt171 => ((net_Twice.f k bt171.1 0).bind fun bt176 => ((net_Give.f k bt176.1 1).bind fun bt180 => ((net_Give.f k bt180.1 2).bind fun bt193 => (if bt171.2 = 2 then (if bt176.2 = 0 then (if bt180.2.2.2.2.2.2.2.2.1.toList = ([98] : List UInt8) then (if bt180.2.2.2.2.2.2.2.2.2 = 0 then (if (bt180.1.length : Int) = 2 then (if 1 < (bt180.1.length : Int) then (if ((rd_T23 bt180.1 1).f7).toList = ([97] : List UInt8) then (if bt193.2.2.2.2.2.2.2.2.2 = 4 then ((net_Right.f k bt180.1).bind fun t208 => (if t208 = true then ((haywainlaw22_one.f (⟨#[97]⟩ : ByteArray)).bind fun bt209 => ((net_Fair.f bt209.1 bt209.2.1 bt209.2.2.1 bt209.2.2.2.1 bt209.2.2.2.2.1 bt209.2.2.2.2.2.1 bt209.2.2.2.2.2.2.1 bt209.2.2.2.2.2.2.2).bind fun t217 => (some t217))) else (none))) else (none)) else (none)) else (none)) else (none)) else (none)) else (none)) else (none)) else (none)))))))) = some r := h
 clear h
 replace H := Option.bind_eq_some_iff.mp H
 obtain ⟨⟨t152, t153, t154, t155, t156, t157, t158, t159⟩, A10, H⟩ := H
 replace H : ((haywainlaw22_one.f (⟨#[98]⟩ : ByteArray)).bind fun bt160 => ((net_Send.f k ([] : List (S23)) (([(⟨t152, t153, t154, t155, t156, t157, t158, t159⟩ : S23), (⟨bt160.1, bt160.2.1, bt160.2.2.1, bt160.2.2.2.1, bt160.2.2.2.2.1, bt160.2.2.2.2.2.1, bt160.2.2.2.2.2.2.1, bt160.2.2.2.2.2.2.2⟩ : S23), (⟨0, 0, 0, 0, 0, 0, 0, (⟨#[]⟩ : ByteArray)⟩ : S23)] : List (S23)))).bind fun bt171 => ((net_Twice.f k bt171.1 0).bind fun bt176 => ((net_Give.f k bt176.1 1).bind fun bt180 => ((net_Give.f k bt180.1 2).bind fun bt193 => (if bt171.2 = 2 then (if bt176.2 = 0 then (if bt180.2.2.2.2.2.2.2.2.1.toList = ([98] : List UInt8) then (if bt180.2.2.2.2.2.2.2.2.2 = 0 then (if (bt180.1.length : Int) = 2 then (if 1 < (bt180.1.length : Int) then (if ((rd_T23 bt180.1 1).f7).toList = ([97] : List UInt8) then (if bt193.2.2.2.2.2.2.2.2.2 = 4 then ((net_Right.f k bt180.1).bind fun t208 => (if t208 = true then ((haywainlaw22_one.f (⟨#[97]⟩ : ByteArray)).bind fun bt209 => ((net_Fair.f bt209.1 bt209.2.1 bt209.2.2.1 bt209.2.2.2.1 bt209.2.2.2.2.1 bt209.2.2.2.2.2.1 bt209.2.2.2.2.2.2.1 bt209.2.2.2.2.2.2.2).bind fun t217 => (some t217))) else (none))) else (none)) else (none)) else (none)) else (none)) else (none)) else (none)) else (none)) else (none))))))) = some r := H
 have A1 := Aside0.mk A10
 clear A10
 replace H := Option.bind_eq_some_iff.mp H
 obtain ⟨⟨t160, t161, t162, t163, t164, t165, t166, t167⟩, A20, H⟩ := H
 replace H : ((net_Send.f k ([] : List (S23)) (([(⟨t152, t153, t154, t155, t156, t157, t158, t159⟩ : S23), (⟨t160, t161, t162, t163, t164, t165, t166, t167⟩ : S23), (⟨0, 0, 0, 0, 0, 0, 0, (⟨#[]⟩ : ByteArray)⟩ : S23)] : List (S23)))).bind fun bt171 => ((net_Twice.f k bt171.1 0).bind fun bt176 => ((net_Give.f k bt176.1 1).bind fun bt180 => ((net_Give.f k bt180.1 2).bind fun bt193 => (if bt171.2 = 2 then (if bt176.2 = 0 then (if bt180.2.2.2.2.2.2.2.2.1.toList = ([98] : List UInt8) then (if bt180.2.2.2.2.2.2.2.2.2 = 0 then (if (bt180.1.length : Int) = 2 then (if 1 < (bt180.1.length : Int) then (if ((rd_T23 bt180.1 1).f7).toList = ([97] : List UInt8) then (if bt193.2.2.2.2.2.2.2.2.2 = 4 then ((net_Right.f k bt180.1).bind fun t208 => (if t208 = true then ((haywainlaw22_one.f (⟨#[97]⟩ : ByteArray)).bind fun bt209 => ((net_Fair.f bt209.1 bt209.2.1 bt209.2.2.1 bt209.2.2.2.1 bt209.2.2.2.2.1 bt209.2.2.2.2.2.1 bt209.2.2.2.2.2.2.1 bt209.2.2.2.2.2.2.2).bind fun t217 => (some t217))) else (none))) else (none)) else (none)) else (none)) else (none)) else (none)) else (none)) else (none)) else (none)))))) = some r := H
 have A2 := Aside0.mk A20
 clear A20
 obtain ⟨y168, hy168⟩ : ∃ y_ : List (S23), y_ = (([(⟨t152, t153, t154, t155, t156, t157, t158, t159⟩ : S23), (⟨t160, t161, t162, t163, t164, t165, t166, t167⟩ : S23), (⟨0, 0, 0, 0, 0, 0, 0, (⟨#[]⟩ : ByteArray)⟩ : S23)] : List (S23))) := ⟨_, rfl⟩
 replace H : ((net_Send.f k ([] : List (S23)) y168).bind fun bt171 => ((net_Twice.f k bt171.1 0).bind fun bt176 => ((net_Give.f k bt176.1 1).bind fun bt180 => ((net_Give.f k bt180.1 2).bind fun bt193 => (if bt171.2 = 2 then (if bt176.2 = 0 then (if bt180.2.2.2.2.2.2.2.2.1.toList = ([98] : List UInt8) then (if bt180.2.2.2.2.2.2.2.2.2 = 0 then (if (bt180.1.length : Int) = 2 then (if 1 < (bt180.1.length : Int) then (if ((rd_T23 bt180.1 1).f7).toList = ([97] : List UInt8) then (if bt193.2.2.2.2.2.2.2.2.2 = 4 then ((net_Right.f k bt180.1).bind fun t208 => (if t208 = true then ((haywainlaw22_one.f (⟨#[97]⟩ : ByteArray)).bind fun bt209 => ((net_Fair.f bt209.1 bt209.2.1 bt209.2.2.1 bt209.2.2.2.1 bt209.2.2.2.2.1 bt209.2.2.2.2.2.1 bt209.2.2.2.2.2.2.1 bt209.2.2.2.2.2.2.2).bind fun t217 => (some t217))) else (none))) else (none)) else (none)) else (none)) else (none)) else (none)) else (none)) else (none)) else (none)))))) = some r := by first | (rw [hy168]; with_reducible exact H) | (have H2_ := (Option.bind_some _ _).symm.trans H; rw [hy168]; with_reducible exact H2_) | (have H2_ := (Option.bind_some _ _).symm.trans H; with_reducible exact H2_) | with_reducible exact H | (rw [hy168]; exact H) | exact H
 have Ny168 := Aside0.mk hy168
 clear hy168
 replace H := Option.bind_eq_some_iff.mp H
 obtain ⟨⟨t171, t174⟩, A30, H⟩ := H
 replace H : ((net_Twice.f k t171 0).bind fun bt176 => ((net_Give.f k bt176.1 1).bind fun bt180 => ((net_Give.f k bt180.1 2).bind fun bt193 => (if t174 = 2 then (if bt176.2 = 0 then (if bt180.2.2.2.2.2.2.2.2.1.toList = ([98] : List UInt8) then (if bt180.2.2.2.2.2.2.2.2.2 = 0 then (if (bt180.1.length : Int) = 2 then (if 1 < (bt180.1.length : Int) then (if ((rd_T23 bt180.1 1).f7).toList = ([97] : List UInt8) then (if bt193.2.2.2.2.2.2.2.2.2 = 4 then ((net_Right.f k bt180.1).bind fun t208 => (if t208 = true then ((haywainlaw22_one.f (⟨#[97]⟩ : ByteArray)).bind fun bt209 => ((net_Fair.f bt209.1 bt209.2.1 bt209.2.2.1 bt209.2.2.2.1 bt209.2.2.2.2.1 bt209.2.2.2.2.2.1 bt209.2.2.2.2.2.2.1 bt209.2.2.2.2.2.2.2).bind fun t217 => (some t217))) else (none))) else (none)) else (none)) else (none)) else (none)) else (none)) else (none)) else (none)) else (none))))) = some r := H
 have A3 := Aside0.mk A30
 clear A30
 replace H := Option.bind_eq_some_iff.mp H
 obtain ⟨⟨t176, t179⟩, A40, H⟩ := H
 replace H : ((net_Give.f k t176 1).bind fun bt180 => ((net_Give.f k bt180.1 2).bind fun bt193 => (if t174 = 2 then (if t179 = 0 then (if bt180.2.2.2.2.2.2.2.2.1.toList = ([98] : List UInt8) then (if bt180.2.2.2.2.2.2.2.2.2 = 0 then (if (bt180.1.length : Int) = 2 then (if 1 < (bt180.1.length : Int) then (if ((rd_T23 bt180.1 1).f7).toList = ([97] : List UInt8) then (if bt193.2.2.2.2.2.2.2.2.2 = 4 then ((net_Right.f k bt180.1).bind fun t208 => (if t208 = true then ((haywainlaw22_one.f (⟨#[97]⟩ : ByteArray)).bind fun bt209 => ((net_Fair.f bt209.1 bt209.2.1 bt209.2.2.1 bt209.2.2.2.1 bt209.2.2.2.2.1 bt209.2.2.2.2.2.1 bt209.2.2.2.2.2.2.1 bt209.2.2.2.2.2.2.2).bind fun t217 => (some t217))) else (none))) else (none)) else (none)) else (none)) else (none)) else (none)) else (none)) else (none)) else (none)))) = some r := H
 have A4 := Aside0.mk A40
 clear A40
 replace H := Option.bind_eq_some_iff.mp H
 obtain ⟨⟨t180, t183, t184, t185, t186, t187, t188, t189, t190, t191⟩, A50, H⟩ := H
 replace H : ((net_Give.f k t180 2).bind fun bt193 => (if t174 = 2 then (if t179 = 0 then (if t190.toList = ([98] : List UInt8) then (if t191 = 0 then (if (t180.length : Int) = 2 then (if 1 < (t180.length : Int) then (if ((rd_T23 t180 1).f7).toList = ([97] : List UInt8) then (if bt193.2.2.2.2.2.2.2.2.2 = 4 then ((net_Right.f k t180).bind fun t208 => (if t208 = true then ((haywainlaw22_one.f (⟨#[97]⟩ : ByteArray)).bind fun bt209 => ((net_Fair.f bt209.1 bt209.2.1 bt209.2.2.1 bt209.2.2.2.1 bt209.2.2.2.2.1 bt209.2.2.2.2.2.1 bt209.2.2.2.2.2.2.1 bt209.2.2.2.2.2.2.2).bind fun t217 => (some t217))) else (none))) else (none)) else (none)) else (none)) else (none)) else (none)) else (none)) else (none)) else (none))) = some r := H
 have A5 := Aside0.mk A50
 clear A50
 replace H := Option.bind_eq_some_iff.mp H
 obtain ⟨⟨t193, t196, t197, t198, t199, t200, t201, t202, t203, t204⟩, A60, H⟩ := H
 replace H : (if t174 = 2 then (if t179 = 0 then (if t190.toList = ([98] : List UInt8) then (if t191 = 0 then (if (t180.length : Int) = 2 then (if 1 < (t180.length : Int) then (if ((rd_T23 t180 1).f7).toList = ([97] : List UInt8) then (if t204 = 4 then ((net_Right.f k t180).bind fun t208 => (if t208 = true then ((haywainlaw22_one.f (⟨#[97]⟩ : ByteArray)).bind fun bt209 => ((net_Fair.f bt209.1 bt209.2.1 bt209.2.2.1 bt209.2.2.2.1 bt209.2.2.2.2.1 bt209.2.2.2.2.2.1 bt209.2.2.2.2.2.2.1 bt209.2.2.2.2.2.2.2).bind fun t217 => (some t217))) else (none))) else (none)) else (none)) else (none)) else (none)) else (none)) else (none)) else (none)) else (none)) = some r := H
 have A6 := Aside0.mk A60
 clear A60
 by_cases c7 : t174 = 2
 ·rw [if_pos c7] at H
  have c7b0 : (t174 == 2) = true := beq_iff_eq.mpr c7
  have c7b1 : (t174 != 2) = false := bne_eq_false_iff_eq.mpr c7
  clear c7
  by_cases c8 : t179 = 0
  ·rw [if_pos c8] at H
   have c8b0 : (t179 == 0) = true := beq_iff_eq.mpr c8
   have c8b1 : (t179 != 0) = false := bne_eq_false_iff_eq.mpr c8
   clear c8
   by_cases c9 : t190.toList = ([98] : List UInt8)
   ·rw [if_pos c9] at H
    have c9b0 : (t190.toList == ([98] : List UInt8)) = true := beq_iff_eq.mpr c9
    have c9b1 : (t190.toList != ([98] : List UInt8)) = false := bne_eq_false_iff_eq.mpr c9
    clear c9
    by_cases c10 : t191 = 0
    ·rw [if_pos c10] at H
     have c10b0 : (t191 == 0) = true := beq_iff_eq.mpr c10
     have c10b1 : (t191 != 0) = false := bne_eq_false_iff_eq.mpr c10
     clear c10
     by_cases c11 : (t180.length : Int) = 2
     ·rw [if_pos c11] at H
      have c11b0 : ((t180.length : Int) == 2) = true := beq_iff_eq.mpr c11
      have c11b1 : ((t180.length : Int) != 2) = false := bne_eq_false_iff_eq.mpr c11
      clear c11
      by_cases c12 : 1 < (t180.length : Int)
      ·rw [if_pos c12] at H
       have c12b0 : decide (1 < (t180.length : Int)) = true := decide_eq_true c12
       have c12b1 : decide (1 < t180.length) = true := decide_eq_true (by omega)
       clear c12
       by_cases c13 : ((rd_T23 t180 1).f7).toList = ([97] : List UInt8)
       ·rw [if_pos c13] at H
        have c13b0 : (((rd_T23 t180 1).f7).toList == ([97] : List UInt8)) = true := beq_iff_eq.mpr c13
        have c13b1 : (((rd_T23 t180 1).f7).toList != ([97] : List UInt8)) = false := bne_eq_false_iff_eq.mpr c13
        clear c13
        by_cases c14 : t204 = 4
        ·rw [if_pos c14] at H
         have c14b0 : (t204 == 4) = true := beq_iff_eq.mpr c14
         have c14b1 : (t204 != 4) = false := bne_eq_false_iff_eq.mpr c14
         clear c14
         replace H := Option.bind_eq_some_iff.mp H
         obtain ⟨t208, A150, H⟩ := H
         replace H : (if t208 = true then ((haywainlaw22_one.f (⟨#[97]⟩ : ByteArray)).bind fun bt209 => ((net_Fair.f bt209.1 bt209.2.1 bt209.2.2.1 bt209.2.2.2.1 bt209.2.2.2.2.1 bt209.2.2.2.2.2.1 bt209.2.2.2.2.2.2.1 bt209.2.2.2.2.2.2.2).bind fun t217 => (some t217))) else (none)) = some r := H
         have A15 := Aside0.mk A150
         clear A150
         by_cases c16 : t208 = true
         ·subst c16
          have H1 : ((haywainlaw22_one.f (⟨#[97]⟩ : ByteArray)).bind fun bt209 => ((net_Fair.f bt209.1 bt209.2.1 bt209.2.2.1 bt209.2.2.2.1 bt209.2.2.2.2.1 bt209.2.2.2.2.2.1 bt209.2.2.2.2.2.2.1 bt209.2.2.2.2.2.2.2).bind fun t217 => (some t217))) = some r := by rw [if_pos rfl] at H; exact H
          clear H
          have H := H1
          clear H1
          replace H := Option.bind_eq_some_iff.mp H
          obtain ⟨⟨t209, t210, t211, t212, t213, t214, t215, t216⟩, A170, H⟩ := H
          replace H : ((net_Fair.f t209 t210 t211 t212 t213 t214 t215 t216).bind fun t217 => (some t217)) = some r := H
          have A17 := Aside0.mk A170
          clear A170
          replace H := Option.bind_eq_some_iff.mp H
          obtain ⟨t217, A180, H⟩ := H
          replace H : (some t217) = some r := H
          have A18 := Aside0.mk A180
          clear A180
          obtain rfl := Option.some.inj H
          go_enter Try.func9, Try.ntmps9
          go_wp2_with (first | ((with_reducible refine gate_callee (f := 23) rfl ?_); refine goesL_ (some 11) rfl rfl Try.func23 (by kernel_rfl) rfl #[.string (⟨#[97]⟩ : ByteArray)] rfl (by (try simp only [List.map_toArray, List.map_cons, List.map_nil]); first | done | rfl | (simp only [List.length_drop, List.length_take]; rfl)) ?_; (with_reducible refine (haywainlaw22_one.calls (⟨#[97]⟩ : ByteArray) t152 t153 t154 t155 t156 t157 t158 t159 _ A1.out).mono ?_); rintro e w19 ⟨rfl, hb⟩; refine ⟨_, rfl, ?_⟩; have n0_ := Aside0.mk (below_step (by repeat (first | (with_reducible first | exact HB.out | apply below_alloc | apply pw_below_drewN | apply below_drew1) | exact HB.out)) hb); clear HB; have HB := n0_; clear n0_; (try clear hb); (try clear hb2); (try clear hk); (try clear hi)) | ((with_reducible refine gate_callee (f := 23) rfl ?_); refine goesL_ (some 12) rfl rfl Try.func23 (by kernel_rfl) rfl #[.string (⟨#[98]⟩ : ByteArray)] rfl (by (try simp only [List.map_toArray, List.map_cons, List.map_nil]); first | done | rfl | (simp only [List.length_drop, List.length_take]; rfl)) ?_; (with_reducible refine (haywainlaw22_one.calls (⟨#[98]⟩ : ByteArray) t160 t161 t162 t163 t164 t165 t166 t167 _ A2.out).mono ?_); rintro e w20 ⟨rfl, hb⟩; refine ⟨_, rfl, ?_⟩; have n0_ := Aside0.mk (below_step (by repeat (first | (with_reducible first | exact HB.out | apply below_alloc | apply pw_below_drewN | apply below_drew1) | exact HB.out)) hb); clear HB; have HB := n0_; clear n0_; (try clear hb); (try clear hb2); (try clear hk); (try clear hi)) | ((with_reducible refine gate_dst (N := 14) rfl ?_); (try (refine gate_guard (by rfl) ?_; dsimp only)); refine Kd.R_lit k23 _ 23 ?hg (N := 14) ?hd (xs := ([(⟨t152, t153, t154, t155, t156, t157, t158, t159⟩ : S23), (⟨t160, t161, t162, t163, t164, t165, t166, t167⟩ : S23), (⟨0, 0, 0, 0, 0, 0, 0, (⟨#[]⟩ : ByteArray)⟩ : S23)] : List (S23))) (inner := [.int .i64 t152, .int .i64 t153, .int .i64 t154, .int .i64 t155, .int .i64 t156, .int .i64 t157, .int .i64 t158, .string t159, .int .i64 t160, .int .i64 t161, .int .i64 t162, .int .i64 t163, .int .i64 t164, .int .i64 t165, .int .i64 t166, .string t167, .int .i64 0, .int .i64 0, .int .i64 0, .int .i64 0, .int .i64 0, .int .i64 0, .int .i64 0, .string (⟨#[]⟩ : ByteArray)]) (ok := fun _ => True) (okp := fun _ => True) ?hr ?hp (fun _ hk => hk) trivial (Below.refl _ _) (Nat.le_refl _) (by simp) ?_; (case hd => rfl); (case hg => rfl); (case hr => first | (go_simp; done) | (go_simp; rfl)); (case hp => exact (Reps.c8 (show Kd.M k23 _ _ _ (⟨t152, t153, t154, t155, t156, t157, t158, t159⟩ : S23) [.int .i64 t152, .int .i64 t153, .int .i64 t154, .int .i64 t155, .int .i64 t156, .int .i64 t157, .int .i64 t158, .string t159] from (k23_mkM _ _ _ (⟨t152, t153, t154, t155, t156, t157, t158, t159⟩ : S23) )) (Reps.c8 (show Kd.M k23 _ _ _ (⟨t160, t161, t162, t163, t164, t165, t166, t167⟩ : S23) [.int .i64 t160, .int .i64 t161, .int .i64 t162, .int .i64 t163, .int .i64 t164, .int .i64 t165, .int .i64 t166, .string t167] from (k23_mkM _ _ _ (⟨t160, t161, t162, t163, t164, t165, t166, t167⟩ : S23) )) (Reps.c8 (show Kd.M k23 _ _ _ (⟨0, 0, 0, 0, 0, 0, 0, (⟨#[]⟩ : ByteArray)⟩ : S23) [.int .i64 0, .int .i64 0, .int .i64 0, .int .i64 0, .int .i64 0, .int .i64 0, .int .i64 0, .string (⟨#[]⟩ : ByteArray)] from (k23_mkM _ _ _ (⟨0, 0, 0, 0, 0, 0, 0, (⟨#[]⟩ : ByteArray)⟩ : S23) )) (Reps.none _ _))))); intro v169 w21 ho22 hb hg_ hnew_; clear hg_ hnew_; (first | rw [← Ny168.out] at ho22 | (simp only [Int.reduceToNat] at ho22; rw [← Ny168.out] at ho22)); have n0_ := Aside0.mk (Kd.R_lower ho22 (below_size (by repeat (first | (with_reducible first | exact HB.out | apply below_alloc | apply pw_below_drewN | apply below_drew1) | exact HB.out)))); have n1_ := Aside0.mk (below_step (by repeat (first | (with_reducible first | exact HB.out | apply below_alloc | apply pw_below_drewN | apply below_drew1) | exact HB.out)) hb); clear HB; have HO170 := n0_; have HB := n1_; clear n0_ n1_; clear hb ho22; obtain ⟨Ao23, co23, eo23⟩ := Kd.R_slice HO170.out; subst eo23) | ((with_reducible refine gate_callee (f := 15) rfl ?_); refine goesL_ (some 15) rfl rfl Try.func15 (by kernel_rfl) rfl #[.agg #[.slice none 0 0], .slice Ao23 y168.length co23] rfl (by (try simp only [List.map_toArray, List.map_cons, List.map_nil]); first | done | rfl | (simp only [List.length_drop, List.length_take]; rfl)) ?_; (refine (net_Send.calls k _ _ ([] : List (S23)) _ _ y168 t171 t174 _ ?side1 ?side2 ?side3 ?side4 A3.out).mono ?_); (case side1 => exact Kd.C_nil _ _); (case side2 => exact Nat.le_refl _); (case side3 => repeat (first | exact (Kd.R_reads' HO170.out).2.2 | (with_reducible refine Kd.C_alloc ?_ _) | (with_reducible refine Kd.C_drewN ?_ _) | (with_reducible refine Kd.C_drew ?_))); (case side4 => exact (Kd.R_reads' HO170.out).2.1); rintro e w24 ⟨v172, rfl, ho0, hb⟩; refine ⟨_, rfl, ?_⟩; have n0_ := Aside0.mk (Kd.R_elder' (by (with_reducible repeat (first | apply Kd.R_alloc | apply Kd.R_drewN | apply Kd.R_drew)); exact HO170.out) (Kd.R_base ho0) hb); have n1_ := Aside0.mk (Kd.R_lower (Kd.R_new' ho0 (Kd.R_lt (by (with_reducible repeat (first | apply Kd.R_alloc | apply Kd.R_drewN | apply Kd.R_drew)); exact HO170.out))) (below_size (by repeat (first | (with_reducible first | exact HB.out | apply below_alloc | apply pw_below_drewN | apply below_drew1) | exact HB.out)))); have n2_ := Aside0.mk (below_step (by repeat (first | (with_reducible first | exact HB.out | apply below_alloc | apply pw_below_drewN | apply below_drew1) | exact HB.out)) hb); clear HO170; clear HB; have HO170 := n0_; have HO173 := n1_; have HB := n2_; clear n0_ n1_ n2_; (try clear hb); (try clear hb2); (try clear hk); (try clear hi); (try clear ho0)) | ((with_reducible refine gate_dst (N := 1) rfl ?_); (try (refine gate_guard (by rfl) ?_; dsimp only)); refine box_event ?hg (N := 1) ?hd (cs := #[.slice none 0 0]) (t := 26) ?hr ?_; (case hd => rfl); (case hg => rfl); (case hr => first | (go_simp; done) | (go_simp; rfl)); intro gb175 hg w25 hbox hb; have n0_ := Aside0.mk (Kd.R_below (by (with_reducible repeat (first | apply Kd.R_alloc | apply Kd.R_drewN | apply Kd.R_drew)); exact HO170.out) hb); have n1_ := Aside0.mk (Kd.R_below (by (with_reducible repeat (first | apply Kd.R_alloc | apply Kd.R_drewN | apply Kd.R_drew)); exact HO173.out) hb); have n2_ := Aside0.mk (below_step (by repeat (first | (with_reducible first | exact HB.out | apply below_alloc | apply pw_below_drewN | apply below_drew1) | exact HB.out)) hb); have n3_ := Aside0.mk (hbox); have n4_ := Aside0.mk ((by rw [hg]; exact (below_size (by repeat (first | (with_reducible first | exact HB.out | apply below_alloc | apply pw_below_drewN | apply below_drew1) | exact HB.out))) : w.heap.size ≤ gb175)); have n5_ := Aside0.mk ((by rw [hg]; exact (below_size (by repeat (first | (with_reducible first | exact HB.out | apply below_alloc | apply pw_below_drewN | apply below_drew1) | exact HB.out))) : w.heap.size ≤ gb175)); clear HO170; clear HO173; clear HB; have HO170 := n0_; have HO173 := n1_; have HB := n2_; have BK175 := n3_; have GW175 := n4_; have GE175 := n5_; clear n0_ n1_ n2_ n3_ n4_ n5_; clear hb hbox hg; obtain ⟨Ao26, co26, eo26⟩ := Kd.R_slice HO173.out; subst eo26; have hcz27_0 : w25.cell? ⟨gb175, 0, none⟩ = some (.slice none 0 0) := (blk_cell BK175.out 0).trans rfl; have hfz27_0 := blk_frozen BK175.out 0) | ((with_reducible refine gate_callee (f := 20) rfl ?_); refine goesL_ (some 20) rfl rfl Try.func20 (by kernel_rfl) rfl #[.agg #[.slice Ao26 t171.length co26], .int .i64 0] rfl (by (try simp only [List.map_toArray, List.map_cons, List.map_nil]); first | done | rfl | (simp only [List.length_drop, List.length_take]; rfl)) ?_; (with_reducible refine (net_Twice.calls k _ _ t171 0 t176 t179 _ ?side1 ?side2 A4.out).mono ?_); (case side1 => refine (Kd.R_reads' (e := 23) (base := w.heap.size) (ok := fun k_ => (True ∧ some k_ ≠ (.slice Ao23 y168.length co23 : Value).ownBlock)) (n := t171.length) (c := co26) ?_).2.2; exact (by (with_reducible repeat (first | apply Kd.R_alloc | apply Kd.R_drewN | apply Kd.R_drew)); exact (Kd.R_mono (Kd.R_far (p := ⟨gb175, 0, none⟩) (Kd.R_types HO173.out BK175.out (by decide)) (fun _ hk => hk.2) (.slice Ao26 t171.length co26)) (fun _ h_ => h_.1)))); (case side2 => exact (Kd.R_reads' HO173.out).2.1); rintro e w28 ⟨v177, rfl, ho0, hb⟩; refine ⟨_, rfl, ?_⟩; have n0_ := Aside0.mk (Kd.R_elder' (by (with_reducible repeat (first | apply Kd.R_alloc | apply Kd.R_drewN | apply Kd.R_drew)); exact (Kd.R_mono (Kd.R_far (p := ⟨gb175, 0, none⟩) (Kd.R_types HO170.out BK175.out (by decide)) (fun _ hk => hk.2) (.slice Ao26 t171.length co26)) (fun _ h_ => h_.1))) (Kd.R_base ho0) hb); have n1_ := Aside0.mk (Kd.R_elder' (by (with_reducible repeat (first | apply Kd.R_alloc | apply Kd.R_drewN | apply Kd.R_drew)); exact (Kd.R_mono (Kd.R_far (p := ⟨gb175, 0, none⟩) (Kd.R_types HO173.out BK175.out (by decide)) (fun _ hk => hk.2) (.slice Ao26 t171.length co26)) (fun _ h_ => h_.1))) (Kd.R_base ho0) hb); have n2_ := Aside0.mk (Kd.R_lower (Kd.R_new' (Kd.R_new' ho0 (Kd.R_lt (by (with_reducible repeat (first | apply Kd.R_alloc | apply Kd.R_drewN | apply Kd.R_drew)); exact (Kd.R_mono (Kd.R_far (p := ⟨gb175, 0, none⟩) (Kd.R_types HO170.out BK175.out (by decide)) (fun _ hk => hk.2) (.slice Ao26 t171.length co26)) (fun _ h_ => h_.1))))) (Kd.R_lt (by (with_reducible repeat (first | apply Kd.R_alloc | apply Kd.R_drewN | apply Kd.R_drew)); exact (Kd.R_mono (Kd.R_far (p := ⟨gb175, 0, none⟩) (Kd.R_types HO173.out BK175.out (by decide)) (fun _ hk => hk.2) (.slice Ao26 t171.length co26)) (fun _ h_ => h_.1))))) (below_size (by repeat (first | (with_reducible first | exact HB.out | apply below_alloc | apply pw_below_drewN | apply below_drew1 | refine below_set ?_ GE175.out) | exact HB.out)))); have n3_ := Aside0.mk (blk_below (g := gb175) (o := .cells #[.slice Ao26 t171.length co26] 26 (0, 0)) (by (with_reducible repeat (first | refine blk_drewN ?_ _ | refine blk_drew ?_ | refine blk_alloc ?_ _)); refine blk_put (cs := #[.slice none 0 0]) ?_ 0 _ rfl; (with_reducible repeat (first | refine blk_drewN ?_ _ | refine blk_drew ?_ | refine blk_alloc ?_ _)); exact BK175.out) hb); have n4_ := Aside0.mk (below_step (by repeat (first | (with_reducible first | exact HB.out | apply below_alloc | apply pw_below_drewN | apply below_drew1 | refine below_set ?_ GE175.out) | exact HB.out)) hb); clear HO170; clear HO173; clear BK175; clear HB; have HO170 := n0_; have HO173 := n1_; have HO178 := n2_; have BK175 := n3_; have HB := n4_; clear n0_ n1_ n2_ n3_ n4_; (try clear hb); (try clear hb2); (try clear hk); (try clear hi); (try clear ho0); obtain ⟨Ao29, co29, eo29⟩ := Kd.R_slice HO178.out; subst eo29; have hcz30_0 : w28.cell? ⟨gb175, 0, none⟩ = some (.slice Ao26 t171.length co26) := (blk_cell BK175.out 0).trans rfl; have hfz30_0 := blk_frozen BK175.out 0) | ((with_reducible refine gate_callee (f := 17) rfl ?_); refine goesL_ (some 25) rfl rfl Try.func17 (by kernel_rfl) rfl #[.agg #[.slice Ao29 t176.length co29], .int .i64 1] rfl (by (try simp only [List.map_toArray, List.map_cons, List.map_nil]); first | done | rfl | (simp only [List.length_drop, List.length_take]; rfl)) ?_; (with_reducible refine (net_Give.calls k _ _ t176 1 t180 t183 t184 t185 t186 t187 t188 t189 t190 t191 _ ?side1 ?side2 A5.out).mono ?_); (case side1 => refine (Kd.R_reads' (e := 23) (base := w.heap.size) (ok := fun k_ => ((True ∧ some k_ ≠ (.slice Ao23 y168.length co23 : Value).ownBlock) ∧ some k_ ≠ (.slice Ao26 t171.length co26 : Value).ownBlock)) (n := t176.length) (c := co29) ?_).2.2; exact (by (with_reducible repeat (first | apply Kd.R_alloc | apply Kd.R_drewN | apply Kd.R_drew)); exact (Kd.R_mono (Kd.R_far (p := ⟨gb175, 0, none⟩) (Kd.R_types HO178.out BK175.out (by decide)) (fun _ hk => hk.2) (.slice Ao29 t176.length co29)) (fun _ h_ => h_.1)))); (case side2 => exact (Kd.R_reads' HO178.out).2.1); rintro e w31 ⟨v181, rfl, ho0, hb⟩; refine ⟨_, rfl, ?_⟩; have n0_ := Aside0.mk (Kd.R_below (by (with_reducible repeat (first | apply Kd.R_alloc | apply Kd.R_drewN | apply Kd.R_drew)); exact (Kd.R_mono (Kd.R_far (p := ⟨gb175, 0, none⟩) (Kd.R_types HO170.out BK175.out (by decide)) (fun _ hk => hk.2) (.slice Ao29 t176.length co29)) (fun _ h_ => h_.1))) hb); have n1_ := Aside0.mk (Kd.R_below (by (with_reducible repeat (first | apply Kd.R_alloc | apply Kd.R_drewN | apply Kd.R_drew)); exact (Kd.R_mono (Kd.R_far (p := ⟨gb175, 0, none⟩) (Kd.R_types HO173.out BK175.out (by decide)) (fun _ hk => hk.2) (.slice Ao29 t176.length co29)) (fun _ h_ => h_.1))) hb); have n2_ := Aside0.mk (Kd.R_below (by (with_reducible repeat (first | apply Kd.R_alloc | apply Kd.R_drewN | apply Kd.R_drew)); exact (Kd.R_mono (Kd.R_far (p := ⟨gb175, 0, none⟩) (Kd.R_types HO178.out BK175.out (by decide)) (fun _ hk => hk.2) (.slice Ao29 t176.length co29)) (fun _ h_ => h_.1))) hb); have n3_ := Aside0.mk (Kd.V_lower (Kd.V_mono (ok' := fun k_ => some k_ ≠ (.slice Ao23 y168.length co23 : Value).ownBlock ∧ some k_ ≠ (.slice Ao26 t171.length co26 : Value).ownBlock ∧ some k_ ≠ (.slice Ao29 t176.length co29 : Value).ownBlock ∧ k_ ≠ gb175) ho0 (fun k_ hk_ => ⟨(Kd.fresh' (Kd.R_lt (by (with_reducible repeat (first | apply Kd.R_alloc | apply Kd.R_drewN | apply Kd.R_drew)); exact (Kd.R_mono (Kd.R_far (p := ⟨gb175, 0, none⟩) (Kd.R_types HO170.out BK175.out (by decide)) (fun _ hk => hk.2) (.slice Ao29 t176.length co29)) (fun _ h_ => h_.1)))) k_ hk_), (Kd.fresh' (Kd.R_lt (by (with_reducible repeat (first | apply Kd.R_alloc | apply Kd.R_drewN | apply Kd.R_drew)); exact (Kd.R_mono (Kd.R_far (p := ⟨gb175, 0, none⟩) (Kd.R_types HO173.out BK175.out (by decide)) (fun _ hk => hk.2) (.slice Ao29 t176.length co29)) (fun _ h_ => h_.1)))) k_ hk_), (Kd.fresh' (Kd.R_lt (by (with_reducible repeat (first | apply Kd.R_alloc | apply Kd.R_drewN | apply Kd.R_drew)); exact (Kd.R_mono (Kd.R_far (p := ⟨gb175, 0, none⟩) (Kd.R_types HO178.out BK175.out (by decide)) (fun _ hk => hk.2) (.slice Ao29 t176.length co29)) (fun _ h_ => h_.1)))) k_ hk_), (Kd.freshB (g := gb175) (o := .cells #[.slice Ao29 t176.length co29] 26 (0, 0)) (by (with_reducible repeat (first | refine blk_drewN ?_ _ | refine blk_drew ?_ | refine blk_alloc ?_ _)); refine blk_put (cs := #[.slice Ao26 t171.length co26]) ?_ 0 _ rfl; (with_reducible repeat (first | refine blk_drewN ?_ _ | refine blk_drew ?_ | refine blk_alloc ?_ _)); exact BK175.out) k_ hk_)⟩)) (below_size (by repeat (first | (with_reducible first | exact HB.out | apply below_alloc | apply pw_below_drewN | apply below_drew1 | refine below_set ?_ GE175.out) | exact HB.out)))); have n4_ := Aside0.mk (blk_below (g := gb175) (o := .cells #[.slice Ao29 t176.length co29] 26 (0, 0)) (by (with_reducible repeat (first | refine blk_drewN ?_ _ | refine blk_drew ?_ | refine blk_alloc ?_ _)); refine blk_put (cs := #[.slice Ao26 t171.length co26]) ?_ 0 _ rfl; (with_reducible repeat (first | refine blk_drewN ?_ _ | refine blk_drew ?_ | refine blk_alloc ?_ _)); exact BK175.out) hb); have n5_ := Aside0.mk (below_step (by repeat (first | (with_reducible first | exact HB.out | apply below_alloc | apply pw_below_drewN | apply below_drew1 | refine below_set ?_ GE175.out) | exact HB.out)) hb); clear HO170; clear HO173; clear HO178; clear BK175; clear HB; have HO170 := n0_; have HO173 := n1_; have HO178 := n2_; have HO182 := n3_; have BK175 := n4_; have HB := n5_; clear n0_ n1_ n2_ n3_ n4_ n5_; (try clear hb); (try clear hb2); (try clear hk); (try clear hi); (try clear ho0)) | ((with_reducible refine gate_dst (N := 4) rfl ?_); (try (refine gate_guard (by rfl) ?_; dsimp only)); refine box_event ?hg (N := 4) ?hd (cs := #[.int .i64 0, .int .i64 0, .int .i64 0, .int .i64 0, .int .i64 0, .int .i64 0, .int .i64 0, .string (⟨#[]⟩ : ByteArray)]) (t := 23) ?hr ?_; (case hd => rfl); (case hg => rfl); (case hr => first | (go_simp; done) | (go_simp; rfl)); intro gb192 hg w32 hbox hb; have n0_ := Aside0.mk (Kd.R_below (Kd.R_elderB (by (with_reducible repeat (first | apply Kd.R_alloc | apply Kd.R_drewN | apply Kd.R_drew)); exact HO170.out) gb192 (Nat.le_of_eq hg.symm)) hb); have n1_ := Aside0.mk (Kd.R_below (Kd.R_elderB (by (with_reducible repeat (first | apply Kd.R_alloc | apply Kd.R_drewN | apply Kd.R_drew)); exact HO173.out) gb192 (Nat.le_of_eq hg.symm)) hb); have n2_ := Aside0.mk (Kd.R_below (Kd.R_elderB (by (with_reducible repeat (first | apply Kd.R_alloc | apply Kd.R_drewN | apply Kd.R_drew)); exact HO178.out) gb192 (Nat.le_of_eq hg.symm)) hb); have n3_ := Aside0.mk (Kd.V_below (Kd.V_elderB (by (with_reducible repeat (first | apply Kd.V_alloc | apply Kd.V_drewN | apply Kd.V_drew)); exact HO182.out) gb192 (Nat.le_of_eq hg.symm)) hb); have n4_ := Aside0.mk (blk_below (g := gb175) (o := .cells #[.slice Ao29 t176.length co29] 26 (0, 0)) (by (with_reducible repeat (first | refine blk_drewN ?_ _ | refine blk_drew ?_ | refine blk_alloc ?_ _)); exact BK175.out) hb); have n5_ := Aside0.mk (below_step (by repeat (first | (with_reducible first | exact HB.out | apply below_alloc | apply pw_below_drewN | apply below_drew1 | refine below_set ?_ GE175.out) | exact HB.out)) hb); have n6_ := Aside0.mk (hbox); have n7_ := Aside0.mk ((by rw [hg]; exact (below_size (by repeat (first | (with_reducible first | exact HB.out | apply below_alloc | apply pw_below_drewN | apply below_drew1 | refine below_set ?_ GE175.out) | exact HB.out))) : w.heap.size ≤ gb192)); have n8_ := Aside0.mk ((by rw [hg]; exact (below_size (by repeat (first | (with_reducible first | exact HB.out | apply below_alloc | apply pw_below_drewN | apply below_drew1 | refine below_set ?_ GE175.out) | exact HB.out))) : w.heap.size ≤ gb192)); have n9_ := Aside0.mk ((by rw [hg]; exact Nat.ne_of_lt (blk_lt (g := gb175) (o := .cells #[.slice Ao29 t176.length co29] 26 (0, 0)) (by (with_reducible repeat (first | refine blk_drewN ?_ _ | refine blk_drew ?_ | refine blk_alloc ?_ _)); exact BK175.out)) : gb175 ≠ gb192)); have n10_ := Aside0.mk ((by rw [hg]; exact Nat.ne_of_gt (blk_lt (g := gb175) (o := .cells #[.slice Ao29 t176.length co29] 26 (0, 0)) (by (with_reducible repeat (first | refine blk_drewN ?_ _ | refine blk_drew ?_ | refine blk_alloc ?_ _)); exact BK175.out)) : gb192 ≠ gb175)); clear HO170; clear HO173; clear HO178; clear HO182; clear BK175; clear HB; have HO170 := n0_; have HO173 := n1_; have HO178 := n2_; have HO182 := n3_; have BK175 := n4_; have HB := n5_; have BK192 := n6_; have GW192 := n7_; have GE192 := n8_; have NB175_192 := n9_; have NB192_175 := n10_; clear n0_ n1_ n2_ n3_ n4_ n5_ n6_ n7_ n8_ n9_ n10_; clear hb hbox hg; obtain ⟨Ao33, co33, eo33⟩ := Kd.V_slice HO182.out; subst eo33; have hnb34 := NB175_192.out; have hnc34 := NB192_175.out; have hcz35_0 : w32.cell? ⟨gb175, 0, none⟩ = some (.slice Ao29 t176.length co29) := (blk_cell BK175.out 0).trans rfl; have hfz35_0 := blk_frozen BK175.out 0; have hcz36_0 : w32.cell? ⟨gb192, 0, none⟩ = some (.int .i64 0) := (blk_cell BK192.out 0).trans rfl; have hcz36_1 : w32.cell? ⟨gb192, 1, none⟩ = some (.int .i64 0) := (blk_cell BK192.out 1).trans rfl; have hcz36_2 : w32.cell? ⟨gb192, 2, none⟩ = some (.int .i64 0) := (blk_cell BK192.out 2).trans rfl; have hcz36_3 : w32.cell? ⟨gb192, 3, none⟩ = some (.int .i64 0) := (blk_cell BK192.out 3).trans rfl; have hcz36_4 : w32.cell? ⟨gb192, 4, none⟩ = some (.int .i64 0) := (blk_cell BK192.out 4).trans rfl; have hcz36_5 : w32.cell? ⟨gb192, 5, none⟩ = some (.int .i64 0) := (blk_cell BK192.out 5).trans rfl; have hcz36_6 : w32.cell? ⟨gb192, 6, none⟩ = some (.int .i64 0) := (blk_cell BK192.out 6).trans rfl; have hcz36_7 : w32.cell? ⟨gb192, 7, none⟩ = some (.string (⟨#[]⟩ : ByteArray)) := (blk_cell BK192.out 7).trans rfl; have hfz36_0 := blk_frozen BK192.out 0; have hfz36_1 := blk_frozen BK192.out 1; have hfz36_2 := blk_frozen BK192.out 2; have hfz36_3 := blk_frozen BK192.out 3; have hfz36_4 := blk_frozen BK192.out 4; have hfz36_5 := blk_frozen BK192.out 5; have hfz36_6 := blk_frozen BK192.out 6; have hfz36_7 := blk_frozen BK192.out 7) | ((with_reducible refine gate_callee (f := 17) rfl ?_); refine goesL_ (some 31) rfl rfl Try.func17 (by kernel_rfl) rfl #[.agg #[.slice Ao33 t180.length co33], .int .i64 2] rfl (by (try simp only [List.map_toArray, List.map_cons, List.map_nil]); first | done | rfl | (simp only [List.length_drop, List.length_take]; rfl)) ?_; (with_reducible refine (net_Give.calls k _ _ t180 2 t193 t196 t197 t198 t199 t200 t201 t202 t203 t204 _ ?side1 ?side2 A6.out).mono ?_); (case side1 => refine (Kd.V_reads' (e := 23) (base := w.heap.size) (ok := fun k_ => ((some k_ ≠ (.slice Ao23 y168.length co23 : Value).ownBlock ∧ (some k_ ≠ (.slice Ao26 t171.length co26 : Value).ownBlock ∧ (some k_ ≠ (.slice Ao29 t176.length co29 : Value).ownBlock ∧ k_ ≠ gb175))) ∧ k_ ≠ gb192)) (n := t180.length) (c := co33) ?_).2.2; exact (by (with_reducible repeat (first | apply Kd.V_alloc | apply Kd.V_drewN | apply Kd.V_drew)); exact (Kd.V_mono (Kd.V_mono (Kd.V_far (p := ⟨gb192, 7, none⟩) (Kd.V_far (p := ⟨gb192, 6, none⟩) (Kd.V_far (p := ⟨gb192, 5, none⟩) (Kd.V_far (p := ⟨gb192, 4, none⟩) (Kd.V_far (p := ⟨gb192, 3, none⟩) (Kd.V_far (p := ⟨gb192, 2, none⟩) (Kd.V_far (p := ⟨gb192, 1, none⟩) (Kd.V_far (p := ⟨gb192, 0, none⟩) (Kd.V_far (p := ⟨gb175, 0, none⟩) (Kd.V_mono (Kd.V_mono HO182.out (fun k_ hk => (⟨hk, hk.1.2.2.2⟩ : _ ∧ k_ ≠ gb175))) (fun k_ hk => (⟨hk, hk.1.2⟩ : _ ∧ k_ ≠ gb192))) (fun _ hk => hk.1.2) (.slice Ao33 t180.length co33)) (fun _ hk => hk.2) (.int .i64 t183)) (fun _ hk => hk.2) (.int .i64 t184)) (fun _ hk => hk.2) (.int .i64 t185)) (fun _ hk => hk.2) (.int .i64 t186)) (fun _ hk => hk.2) (.int .i64 t187)) (fun _ hk => hk.2) (.int .i64 t188)) (fun _ hk => hk.2) (.int .i64 t189)) (fun _ hk => hk.2) (.string t190)) (fun _ h_ => h_.1)) (fun _ h_ => h_.1)))); (case side2 => exact (Kd.V_reads' HO182.out).2.1); rintro e w37 ⟨v194, rfl, ho0, hb⟩; refine ⟨_, rfl, ?_⟩; have n0_ := Aside0.mk (Kd.R_below (by (with_reducible repeat (first | apply Kd.R_alloc | apply Kd.R_drewN | apply Kd.R_drew)); exact (Kd.R_mono (Kd.R_mono (Kd.R_far (p := ⟨gb192, 7, none⟩) (Kd.R_far (p := ⟨gb192, 6, none⟩) (Kd.R_far (p := ⟨gb192, 5, none⟩) (Kd.R_far (p := ⟨gb192, 4, none⟩) (Kd.R_far (p := ⟨gb192, 3, none⟩) (Kd.R_far (p := ⟨gb192, 2, none⟩) (Kd.R_far (p := ⟨gb192, 1, none⟩) (Kd.R_far (p := ⟨gb192, 0, none⟩) (Kd.R_far (p := ⟨gb175, 0, none⟩) (Kd.R_mono (Kd.R_types HO170.out BK175.out (by decide)) (fun k_ hk => (⟨hk, hk.1.2⟩ : _ ∧ k_ ≠ gb192))) (fun _ hk => hk.1.2) (.slice Ao33 t180.length co33)) (fun _ hk => hk.2) (.int .i64 t183)) (fun _ hk => hk.2) (.int .i64 t184)) (fun _ hk => hk.2) (.int .i64 t185)) (fun _ hk => hk.2) (.int .i64 t186)) (fun _ hk => hk.2) (.int .i64 t187)) (fun _ hk => hk.2) (.int .i64 t188)) (fun _ hk => hk.2) (.int .i64 t189)) (fun _ hk => hk.2) (.string t190)) (fun _ h_ => h_.1)) (fun _ h_ => h_.1))) hb); have n1_ := Aside0.mk (Kd.R_below (by (with_reducible repeat (first | apply Kd.R_alloc | apply Kd.R_drewN | apply Kd.R_drew)); exact (Kd.R_mono (Kd.R_mono (Kd.R_far (p := ⟨gb192, 7, none⟩) (Kd.R_far (p := ⟨gb192, 6, none⟩) (Kd.R_far (p := ⟨gb192, 5, none⟩) (Kd.R_far (p := ⟨gb192, 4, none⟩) (Kd.R_far (p := ⟨gb192, 3, none⟩) (Kd.R_far (p := ⟨gb192, 2, none⟩) (Kd.R_far (p := ⟨gb192, 1, none⟩) (Kd.R_far (p := ⟨gb192, 0, none⟩) (Kd.R_far (p := ⟨gb175, 0, none⟩) (Kd.R_mono (Kd.R_types HO173.out BK175.out (by decide)) (fun k_ hk => (⟨hk, hk.1.2⟩ : _ ∧ k_ ≠ gb192))) (fun _ hk => hk.1.2) (.slice Ao33 t180.length co33)) (fun _ hk => hk.2) (.int .i64 t183)) (fun _ hk => hk.2) (.int .i64 t184)) (fun _ hk => hk.2) (.int .i64 t185)) (fun _ hk => hk.2) (.int .i64 t186)) (fun _ hk => hk.2) (.int .i64 t187)) (fun _ hk => hk.2) (.int .i64 t188)) (fun _ hk => hk.2) (.int .i64 t189)) (fun _ hk => hk.2) (.string t190)) (fun _ h_ => h_.1)) (fun _ h_ => h_.1))) hb); have n2_ := Aside0.mk (Kd.R_below (by (with_reducible repeat (first | apply Kd.R_alloc | apply Kd.R_drewN | apply Kd.R_drew)); exact (Kd.R_mono (Kd.R_mono (Kd.R_far (p := ⟨gb192, 7, none⟩) (Kd.R_far (p := ⟨gb192, 6, none⟩) (Kd.R_far (p := ⟨gb192, 5, none⟩) (Kd.R_far (p := ⟨gb192, 4, none⟩) (Kd.R_far (p := ⟨gb192, 3, none⟩) (Kd.R_far (p := ⟨gb192, 2, none⟩) (Kd.R_far (p := ⟨gb192, 1, none⟩) (Kd.R_far (p := ⟨gb192, 0, none⟩) (Kd.R_far (p := ⟨gb175, 0, none⟩) (Kd.R_mono (Kd.R_types HO178.out BK175.out (by decide)) (fun k_ hk => (⟨hk, hk.1.2⟩ : _ ∧ k_ ≠ gb192))) (fun _ hk => hk.1.2) (.slice Ao33 t180.length co33)) (fun _ hk => hk.2) (.int .i64 t183)) (fun _ hk => hk.2) (.int .i64 t184)) (fun _ hk => hk.2) (.int .i64 t185)) (fun _ hk => hk.2) (.int .i64 t186)) (fun _ hk => hk.2) (.int .i64 t187)) (fun _ hk => hk.2) (.int .i64 t188)) (fun _ hk => hk.2) (.int .i64 t189)) (fun _ hk => hk.2) (.string t190)) (fun _ h_ => h_.1)) (fun _ h_ => h_.1))) hb); have n3_ := Aside0.mk (Kd.V_below (by (with_reducible repeat (first | apply Kd.V_alloc | apply Kd.V_drewN | apply Kd.V_drew)); exact (Kd.V_mono (Kd.V_mono (Kd.V_far (p := ⟨gb192, 7, none⟩) (Kd.V_far (p := ⟨gb192, 6, none⟩) (Kd.V_far (p := ⟨gb192, 5, none⟩) (Kd.V_far (p := ⟨gb192, 4, none⟩) (Kd.V_far (p := ⟨gb192, 3, none⟩) (Kd.V_far (p := ⟨gb192, 2, none⟩) (Kd.V_far (p := ⟨gb192, 1, none⟩) (Kd.V_far (p := ⟨gb192, 0, none⟩) (Kd.V_far (p := ⟨gb175, 0, none⟩) (Kd.V_mono (Kd.V_mono HO182.out (fun k_ hk => (⟨hk, hk.1.2.2.2⟩ : _ ∧ k_ ≠ gb175))) (fun k_ hk => (⟨hk, hk.1.2⟩ : _ ∧ k_ ≠ gb192))) (fun _ hk => hk.1.2) (.slice Ao33 t180.length co33)) (fun _ hk => hk.2) (.int .i64 t183)) (fun _ hk => hk.2) (.int .i64 t184)) (fun _ hk => hk.2) (.int .i64 t185)) (fun _ hk => hk.2) (.int .i64 t186)) (fun _ hk => hk.2) (.int .i64 t187)) (fun _ hk => hk.2) (.int .i64 t188)) (fun _ hk => hk.2) (.int .i64 t189)) (fun _ hk => hk.2) (.string t190)) (fun _ h_ => h_.1)) (fun _ h_ => h_.1))) hb); have n4_ := Aside0.mk (Kd.V_lower (Kd.V_mono (ok' := fun k_ => some k_ ≠ (.slice Ao23 y168.length co23 : Value).ownBlock ∧ some k_ ≠ (.slice Ao26 t171.length co26 : Value).ownBlock ∧ some k_ ≠ (.slice Ao29 t176.length co29 : Value).ownBlock ∧ k_ ≠ gb175 ∧ k_ ≠ gb192) ho0 (fun k_ hk_ => ⟨(Kd.fresh' (Kd.R_lt (by (with_reducible repeat (first | apply Kd.R_alloc | apply Kd.R_drewN | apply Kd.R_drew)); exact (Kd.R_mono (Kd.R_mono (Kd.R_far (p := ⟨gb192, 7, none⟩) (Kd.R_far (p := ⟨gb192, 6, none⟩) (Kd.R_far (p := ⟨gb192, 5, none⟩) (Kd.R_far (p := ⟨gb192, 4, none⟩) (Kd.R_far (p := ⟨gb192, 3, none⟩) (Kd.R_far (p := ⟨gb192, 2, none⟩) (Kd.R_far (p := ⟨gb192, 1, none⟩) (Kd.R_far (p := ⟨gb192, 0, none⟩) (Kd.R_far (p := ⟨gb175, 0, none⟩) (Kd.R_mono (Kd.R_types HO170.out BK175.out (by decide)) (fun k_ hk => (⟨hk, hk.1.2⟩ : _ ∧ k_ ≠ gb192))) (fun _ hk => hk.1.2) (.slice Ao33 t180.length co33)) (fun _ hk => hk.2) (.int .i64 t183)) (fun _ hk => hk.2) (.int .i64 t184)) (fun _ hk => hk.2) (.int .i64 t185)) (fun _ hk => hk.2) (.int .i64 t186)) (fun _ hk => hk.2) (.int .i64 t187)) (fun _ hk => hk.2) (.int .i64 t188)) (fun _ hk => hk.2) (.int .i64 t189)) (fun _ hk => hk.2) (.string t190)) (fun _ h_ => h_.1)) (fun _ h_ => h_.1)))) k_ hk_), (Kd.fresh' (Kd.R_lt (by (with_reducible repeat (first | apply Kd.R_alloc | apply Kd.R_drewN | apply Kd.R_drew)); exact (Kd.R_mono (Kd.R_mono (Kd.R_far (p := ⟨gb192, 7, none⟩) (Kd.R_far (p := ⟨gb192, 6, none⟩) (Kd.R_far (p := ⟨gb192, 5, none⟩) (Kd.R_far (p := ⟨gb192, 4, none⟩) (Kd.R_far (p := ⟨gb192, 3, none⟩) (Kd.R_far (p := ⟨gb192, 2, none⟩) (Kd.R_far (p := ⟨gb192, 1, none⟩) (Kd.R_far (p := ⟨gb192, 0, none⟩) (Kd.R_far (p := ⟨gb175, 0, none⟩) (Kd.R_mono (Kd.R_types HO173.out BK175.out (by decide)) (fun k_ hk => (⟨hk, hk.1.2⟩ : _ ∧ k_ ≠ gb192))) (fun _ hk => hk.1.2) (.slice Ao33 t180.length co33)) (fun _ hk => hk.2) (.int .i64 t183)) (fun _ hk => hk.2) (.int .i64 t184)) (fun _ hk => hk.2) (.int .i64 t185)) (fun _ hk => hk.2) (.int .i64 t186)) (fun _ hk => hk.2) (.int .i64 t187)) (fun _ hk => hk.2) (.int .i64 t188)) (fun _ hk => hk.2) (.int .i64 t189)) (fun _ hk => hk.2) (.string t190)) (fun _ h_ => h_.1)) (fun _ h_ => h_.1)))) k_ hk_), (Kd.fresh' (Kd.R_lt (by (with_reducible repeat (first | apply Kd.R_alloc | apply Kd.R_drewN | apply Kd.R_drew)); exact (Kd.R_mono (Kd.R_mono (Kd.R_far (p := ⟨gb192, 7, none⟩) (Kd.R_far (p := ⟨gb192, 6, none⟩) (Kd.R_far (p := ⟨gb192, 5, none⟩) (Kd.R_far (p := ⟨gb192, 4, none⟩) (Kd.R_far (p := ⟨gb192, 3, none⟩) (Kd.R_far (p := ⟨gb192, 2, none⟩) (Kd.R_far (p := ⟨gb192, 1, none⟩) (Kd.R_far (p := ⟨gb192, 0, none⟩) (Kd.R_far (p := ⟨gb175, 0, none⟩) (Kd.R_mono (Kd.R_types HO178.out BK175.out (by decide)) (fun k_ hk => (⟨hk, hk.1.2⟩ : _ ∧ k_ ≠ gb192))) (fun _ hk => hk.1.2) (.slice Ao33 t180.length co33)) (fun _ hk => hk.2) (.int .i64 t183)) (fun _ hk => hk.2) (.int .i64 t184)) (fun _ hk => hk.2) (.int .i64 t185)) (fun _ hk => hk.2) (.int .i64 t186)) (fun _ hk => hk.2) (.int .i64 t187)) (fun _ hk => hk.2) (.int .i64 t188)) (fun _ hk => hk.2) (.int .i64 t189)) (fun _ hk => hk.2) (.string t190)) (fun _ h_ => h_.1)) (fun _ h_ => h_.1)))) k_ hk_), (Kd.freshB (g := gb175) (o := .cells #[.slice Ao33 t180.length co33] 26 (0, 0)) (by (with_reducible repeat (first | refine blk_drewN ?_ _ | refine blk_drew ?_ | refine blk_alloc ?_ _)); refine blk_far ?_ NB175_192.out _; (with_reducible repeat (first | refine blk_drewN ?_ _ | refine blk_drew ?_ | refine blk_alloc ?_ _)); refine blk_far ?_ NB175_192.out _; (with_reducible repeat (first | refine blk_drewN ?_ _ | refine blk_drew ?_ | refine blk_alloc ?_ _)); refine blk_far ?_ NB175_192.out _; (with_reducible repeat (first | refine blk_drewN ?_ _ | refine blk_drew ?_ | refine blk_alloc ?_ _)); refine blk_far ?_ NB175_192.out _; (with_reducible repeat (first | refine blk_drewN ?_ _ | refine blk_drew ?_ | refine blk_alloc ?_ _)); refine blk_far ?_ NB175_192.out _; (with_reducible repeat (first | refine blk_drewN ?_ _ | refine blk_drew ?_ | refine blk_alloc ?_ _)); refine blk_far ?_ NB175_192.out _; (with_reducible repeat (first | refine blk_drewN ?_ _ | refine blk_drew ?_ | refine blk_alloc ?_ _)); refine blk_far ?_ NB175_192.out _; (with_reducible repeat (first | refine blk_drewN ?_ _ | refine blk_drew ?_ | refine blk_alloc ?_ _)); refine blk_far ?_ NB175_192.out _; (with_reducible repeat (first | refine blk_drewN ?_ _ | refine blk_drew ?_ | refine blk_alloc ?_ _)); refine blk_put (cs := #[.slice Ao29 t176.length co29]) ?_ 0 _ rfl; (with_reducible repeat (first | refine blk_drewN ?_ _ | refine blk_drew ?_ | refine blk_alloc ?_ _)); exact BK175.out) k_ hk_), (Kd.freshB (g := gb192) (o := .cells #[.int .i64 t183, .int .i64 t184, .int .i64 t185, .int .i64 t186, .int .i64 t187, .int .i64 t188, .int .i64 t189, .string t190] 23 (0, 0)) (by (with_reducible repeat (first | refine blk_drewN ?_ _ | refine blk_drew ?_ | refine blk_alloc ?_ _)); refine blk_put (cs := #[.int .i64 t183, .int .i64 t184, .int .i64 t185, .int .i64 t186, .int .i64 t187, .int .i64 t188, .int .i64 t189, .string (⟨#[]⟩ : ByteArray)]) ?_ 7 _ rfl; (with_reducible repeat (first | refine blk_drewN ?_ _ | refine blk_drew ?_ | refine blk_alloc ?_ _)); refine blk_put (cs := #[.int .i64 t183, .int .i64 t184, .int .i64 t185, .int .i64 t186, .int .i64 t187, .int .i64 t188, .int .i64 0, .string (⟨#[]⟩ : ByteArray)]) ?_ 6 _ rfl; (with_reducible repeat (first | refine blk_drewN ?_ _ | refine blk_drew ?_ | refine blk_alloc ?_ _)); refine blk_put (cs := #[.int .i64 t183, .int .i64 t184, .int .i64 t185, .int .i64 t186, .int .i64 t187, .int .i64 0, .int .i64 0, .string (⟨#[]⟩ : ByteArray)]) ?_ 5 _ rfl; (with_reducible repeat (first | refine blk_drewN ?_ _ | refine blk_drew ?_ | refine blk_alloc ?_ _)); refine blk_put (cs := #[.int .i64 t183, .int .i64 t184, .int .i64 t185, .int .i64 t186, .int .i64 0, .int .i64 0, .int .i64 0, .string (⟨#[]⟩ : ByteArray)]) ?_ 4 _ rfl; (with_reducible repeat (first | refine blk_drewN ?_ _ | refine blk_drew ?_ | refine blk_alloc ?_ _)); refine blk_put (cs := #[.int .i64 t183, .int .i64 t184, .int .i64 t185, .int .i64 0, .int .i64 0, .int .i64 0, .int .i64 0, .string (⟨#[]⟩ : ByteArray)]) ?_ 3 _ rfl; (with_reducible repeat (first | refine blk_drewN ?_ _ | refine blk_drew ?_ | refine blk_alloc ?_ _)); refine blk_put (cs := #[.int .i64 t183, .int .i64 t184, .int .i64 0, .int .i64 0, .int .i64 0, .int .i64 0, .int .i64 0, .string (⟨#[]⟩ : ByteArray)]) ?_ 2 _ rfl; (with_reducible repeat (first | refine blk_drewN ?_ _ | refine blk_drew ?_ | refine blk_alloc ?_ _)); refine blk_put (cs := #[.int .i64 t183, .int .i64 0, .int .i64 0, .int .i64 0, .int .i64 0, .int .i64 0, .int .i64 0, .string (⟨#[]⟩ : ByteArray)]) ?_ 1 _ rfl; (with_reducible repeat (first | refine blk_drewN ?_ _ | refine blk_drew ?_ | refine blk_alloc ?_ _)); refine blk_put (cs := #[.int .i64 0, .int .i64 0, .int .i64 0, .int .i64 0, .int .i64 0, .int .i64 0, .int .i64 0, .string (⟨#[]⟩ : ByteArray)]) ?_ 0 _ rfl; (with_reducible repeat (first | refine blk_drewN ?_ _ | refine blk_drew ?_ | refine blk_alloc ?_ _)); refine blk_far ?_ NB192_175.out _; (with_reducible repeat (first | refine blk_drewN ?_ _ | refine blk_drew ?_ | refine blk_alloc ?_ _)); exact BK192.out) k_ hk_)⟩)) (below_size (by repeat (first | (with_reducible first | exact HB.out | apply below_alloc | apply pw_below_drewN | apply below_drew1 | refine below_set ?_ GE175.out | refine below_set ?_ GE192.out) | exact HB.out)))); have n5_ := Aside0.mk (blk_below (g := gb175) (o := .cells #[.slice Ao33 t180.length co33] 26 (0, 0)) (by (with_reducible repeat (first | refine blk_drewN ?_ _ | refine blk_drew ?_ | refine blk_alloc ?_ _)); refine blk_far ?_ NB175_192.out _; (with_reducible repeat (first | refine blk_drewN ?_ _ | refine blk_drew ?_ | refine blk_alloc ?_ _)); refine blk_far ?_ NB175_192.out _; (with_reducible repeat (first | refine blk_drewN ?_ _ | refine blk_drew ?_ | refine blk_alloc ?_ _)); refine blk_far ?_ NB175_192.out _; (with_reducible repeat (first | refine blk_drewN ?_ _ | refine blk_drew ?_ | refine blk_alloc ?_ _)); refine blk_far ?_ NB175_192.out _; (with_reducible repeat (first | refine blk_drewN ?_ _ | refine blk_drew ?_ | refine blk_alloc ?_ _)); refine blk_far ?_ NB175_192.out _; (with_reducible repeat (first | refine blk_drewN ?_ _ | refine blk_drew ?_ | refine blk_alloc ?_ _)); refine blk_far ?_ NB175_192.out _; (with_reducible repeat (first | refine blk_drewN ?_ _ | refine blk_drew ?_ | refine blk_alloc ?_ _)); refine blk_far ?_ NB175_192.out _; (with_reducible repeat (first | refine blk_drewN ?_ _ | refine blk_drew ?_ | refine blk_alloc ?_ _)); refine blk_far ?_ NB175_192.out _; (with_reducible repeat (first | refine blk_drewN ?_ _ | refine blk_drew ?_ | refine blk_alloc ?_ _)); refine blk_put (cs := #[.slice Ao29 t176.length co29]) ?_ 0 _ rfl; (with_reducible repeat (first | refine blk_drewN ?_ _ | refine blk_drew ?_ | refine blk_alloc ?_ _)); exact BK175.out) hb); have n6_ := Aside0.mk (blk_below (g := gb192) (o := .cells #[.int .i64 t183, .int .i64 t184, .int .i64 t185, .int .i64 t186, .int .i64 t187, .int .i64 t188, .int .i64 t189, .string t190] 23 (0, 0)) (by (with_reducible repeat (first | refine blk_drewN ?_ _ | refine blk_drew ?_ | refine blk_alloc ?_ _)); refine blk_put (cs := #[.int .i64 t183, .int .i64 t184, .int .i64 t185, .int .i64 t186, .int .i64 t187, .int .i64 t188, .int .i64 t189, .string (⟨#[]⟩ : ByteArray)]) ?_ 7 _ rfl; (with_reducible repeat (first | refine blk_drewN ?_ _ | refine blk_drew ?_ | refine blk_alloc ?_ _)); refine blk_put (cs := #[.int .i64 t183, .int .i64 t184, .int .i64 t185, .int .i64 t186, .int .i64 t187, .int .i64 t188, .int .i64 0, .string (⟨#[]⟩ : ByteArray)]) ?_ 6 _ rfl; (with_reducible repeat (first | refine blk_drewN ?_ _ | refine blk_drew ?_ | refine blk_alloc ?_ _)); refine blk_put (cs := #[.int .i64 t183, .int .i64 t184, .int .i64 t185, .int .i64 t186, .int .i64 t187, .int .i64 0, .int .i64 0, .string (⟨#[]⟩ : ByteArray)]) ?_ 5 _ rfl; (with_reducible repeat (first | refine blk_drewN ?_ _ | refine blk_drew ?_ | refine blk_alloc ?_ _)); refine blk_put (cs := #[.int .i64 t183, .int .i64 t184, .int .i64 t185, .int .i64 t186, .int .i64 0, .int .i64 0, .int .i64 0, .string (⟨#[]⟩ : ByteArray)]) ?_ 4 _ rfl; (with_reducible repeat (first | refine blk_drewN ?_ _ | refine blk_drew ?_ | refine blk_alloc ?_ _)); refine blk_put (cs := #[.int .i64 t183, .int .i64 t184, .int .i64 t185, .int .i64 0, .int .i64 0, .int .i64 0, .int .i64 0, .string (⟨#[]⟩ : ByteArray)]) ?_ 3 _ rfl; (with_reducible repeat (first | refine blk_drewN ?_ _ | refine blk_drew ?_ | refine blk_alloc ?_ _)); refine blk_put (cs := #[.int .i64 t183, .int .i64 t184, .int .i64 0, .int .i64 0, .int .i64 0, .int .i64 0, .int .i64 0, .string (⟨#[]⟩ : ByteArray)]) ?_ 2 _ rfl; (with_reducible repeat (first | refine blk_drewN ?_ _ | refine blk_drew ?_ | refine blk_alloc ?_ _)); refine blk_put (cs := #[.int .i64 t183, .int .i64 0, .int .i64 0, .int .i64 0, .int .i64 0, .int .i64 0, .int .i64 0, .string (⟨#[]⟩ : ByteArray)]) ?_ 1 _ rfl; (with_reducible repeat (first | refine blk_drewN ?_ _ | refine blk_drew ?_ | refine blk_alloc ?_ _)); refine blk_put (cs := #[.int .i64 0, .int .i64 0, .int .i64 0, .int .i64 0, .int .i64 0, .int .i64 0, .int .i64 0, .string (⟨#[]⟩ : ByteArray)]) ?_ 0 _ rfl; (with_reducible repeat (first | refine blk_drewN ?_ _ | refine blk_drew ?_ | refine blk_alloc ?_ _)); refine blk_far ?_ NB192_175.out _; (with_reducible repeat (first | refine blk_drewN ?_ _ | refine blk_drew ?_ | refine blk_alloc ?_ _)); exact BK192.out) hb); have n7_ := Aside0.mk (below_step (by repeat (first | (with_reducible first | exact HB.out | apply below_alloc | apply pw_below_drewN | apply below_drew1 | refine below_set ?_ GE175.out | refine below_set ?_ GE192.out) | exact HB.out)) hb); clear HO170; clear HO173; clear HO178; clear HO182; clear BK175; clear BK192; clear HB; have HO170 := n0_; have HO173 := n1_; have HO178 := n2_; have HO182 := n3_; have HO195 := n4_; have BK175 := n5_; have BK192 := n6_; have HB := n7_; clear n0_ n1_ n2_ n3_ n4_ n5_ n6_ n7_; (try clear hb); (try clear hb2); (try clear hk); (try clear hi); (try clear ho0)) | ((with_reducible refine gate_dst (N := 6) rfl ?_); (try (refine gate_guard (by rfl) ?_; dsimp only)); refine box_event ?hg (N := 6) ?hd (cs := #[.slice none 0 0]) (t := 26) ?hr ?_; (case hd => rfl); (case hg => rfl); (case hr => first | (go_simp; done) | (go_simp; rfl)); intro gb205 hg w38 hbox hb; have n0_ := Aside0.mk (Kd.R_below (by (with_reducible repeat (first | apply Kd.R_alloc | apply Kd.R_drewN | apply Kd.R_drew)); exact HO170.out) hb); have n1_ := Aside0.mk (Kd.R_below (by (with_reducible repeat (first | apply Kd.R_alloc | apply Kd.R_drewN | apply Kd.R_drew)); exact HO173.out) hb); have n2_ := Aside0.mk (Kd.R_below (by (with_reducible repeat (first | apply Kd.R_alloc | apply Kd.R_drewN | apply Kd.R_drew)); exact HO178.out) hb); have n3_ := Aside0.mk (Kd.V_below (Kd.V_elderB (by (with_reducible repeat (first | apply Kd.V_alloc | apply Kd.V_drewN | apply Kd.V_drew)); exact HO182.out) gb205 (Nat.le_of_eq hg.symm)) hb); have n4_ := Aside0.mk (Kd.V_below (Kd.V_elderB (by (with_reducible repeat (first | apply Kd.V_alloc | apply Kd.V_drewN | apply Kd.V_drew)); exact HO195.out) gb205 (Nat.le_of_eq hg.symm)) hb); have n5_ := Aside0.mk (blk_below (g := gb175) (o := .cells #[.slice Ao33 t180.length co33] 26 (0, 0)) (by (with_reducible repeat (first | refine blk_drewN ?_ _ | refine blk_drew ?_ | refine blk_alloc ?_ _)); exact BK175.out) hb); have n6_ := Aside0.mk (blk_below (g := gb192) (o := .cells #[.int .i64 t183, .int .i64 t184, .int .i64 t185, .int .i64 t186, .int .i64 t187, .int .i64 t188, .int .i64 t189, .string t190] 23 (0, 0)) (by (with_reducible repeat (first | refine blk_drewN ?_ _ | refine blk_drew ?_ | refine blk_alloc ?_ _)); exact BK192.out) hb); have n7_ := Aside0.mk (below_step (by repeat (first | (with_reducible first | exact HB.out | apply below_alloc | apply pw_below_drewN | apply below_drew1 | refine below_set ?_ GE175.out | refine below_set ?_ GE192.out) | exact HB.out)) hb); have n8_ := Aside0.mk (hbox); have n9_ := Aside0.mk ((by rw [hg]; exact (below_size (by repeat (first | (with_reducible first | exact HB.out | apply below_alloc | apply pw_below_drewN | apply below_drew1 | refine below_set ?_ GE175.out | refine below_set ?_ GE192.out) | exact HB.out))) : w.heap.size ≤ gb205)); have n10_ := Aside0.mk ((by rw [hg]; exact (below_size (by repeat (first | (with_reducible first | exact HB.out | apply below_alloc | apply pw_below_drewN | apply below_drew1 | refine below_set ?_ GE175.out | refine below_set ?_ GE192.out) | exact HB.out))) : w.heap.size ≤ gb205)); have n11_ := Aside0.mk ((by rw [hg]; exact Nat.ne_of_lt (blk_lt (g := gb175) (o := .cells #[.slice Ao33 t180.length co33] 26 (0, 0)) (by (with_reducible repeat (first | refine blk_drewN ?_ _ | refine blk_drew ?_ | refine blk_alloc ?_ _)); exact BK175.out)) : gb175 ≠ gb205)); have n12_ := Aside0.mk ((by rw [hg]; exact Nat.ne_of_gt (blk_lt (g := gb175) (o := .cells #[.slice Ao33 t180.length co33] 26 (0, 0)) (by (with_reducible repeat (first | refine blk_drewN ?_ _ | refine blk_drew ?_ | refine blk_alloc ?_ _)); exact BK175.out)) : gb205 ≠ gb175)); have n13_ := Aside0.mk ((by rw [hg]; exact Nat.ne_of_lt (blk_lt (g := gb192) (o := .cells #[.int .i64 t183, .int .i64 t184, .int .i64 t185, .int .i64 t186, .int .i64 t187, .int .i64 t188, .int .i64 t189, .string t190] 23 (0, 0)) (by (with_reducible repeat (first | refine blk_drewN ?_ _ | refine blk_drew ?_ | refine blk_alloc ?_ _)); exact BK192.out)) : gb192 ≠ gb205)); have n14_ := Aside0.mk ((by rw [hg]; exact Nat.ne_of_gt (blk_lt (g := gb192) (o := .cells #[.int .i64 t183, .int .i64 t184, .int .i64 t185, .int .i64 t186, .int .i64 t187, .int .i64 t188, .int .i64 t189, .string t190] 23 (0, 0)) (by (with_reducible repeat (first | refine blk_drewN ?_ _ | refine blk_drew ?_ | refine blk_alloc ?_ _)); exact BK192.out)) : gb205 ≠ gb192)); clear HO170; clear HO173; clear HO178; clear HO182; clear HO195; clear BK175; clear BK192; clear HB; have HO170 := n0_; have HO173 := n1_; have HO178 := n2_; have HO182 := n3_; have HO195 := n4_; have BK175 := n5_; have BK192 := n6_; have HB := n7_; have BK205 := n8_; have GW205 := n9_; have GE205 := n10_; have NB175_205 := n11_; have NB205_175 := n12_; have NB192_205 := n13_; have NB205_192 := n14_; clear n0_ n1_ n2_ n3_ n4_ n5_ n6_ n7_ n8_ n9_ n10_ n11_ n12_ n13_ n14_; clear hb hbox hg) | ((with_reducible refine gate_dst (N := 7) rfl ?_); (try (refine gate_guard (by rfl) ?_; dsimp only)); refine box_event ?hg (N := 7) ?hd (cs := #[.int .i64 0, .int .i64 0, .int .i64 0, .int .i64 0, .int .i64 0, .int .i64 0, .int .i64 0, .string (⟨#[]⟩ : ByteArray)]) (t := 23) ?hr ?_; (case hd => rfl); (case hg => rfl); (case hr => first | (go_simp; done) | (go_simp; rfl)); intro gb206 hg w39 hbox hb; have n0_ := Aside0.mk (Kd.R_below (Kd.R_elderB (by (with_reducible repeat (first | apply Kd.R_alloc | apply Kd.R_drewN | apply Kd.R_drew)); exact HO170.out) gb206 (Nat.le_of_eq hg.symm)) hb); have n1_ := Aside0.mk (Kd.R_below (Kd.R_elderB (by (with_reducible repeat (first | apply Kd.R_alloc | apply Kd.R_drewN | apply Kd.R_drew)); exact HO173.out) gb206 (Nat.le_of_eq hg.symm)) hb); have n2_ := Aside0.mk (Kd.R_below (Kd.R_elderB (by (with_reducible repeat (first | apply Kd.R_alloc | apply Kd.R_drewN | apply Kd.R_drew)); exact HO178.out) gb206 (Nat.le_of_eq hg.symm)) hb); have n3_ := Aside0.mk (Kd.V_below (Kd.V_elderB (by (with_reducible repeat (first | apply Kd.V_alloc | apply Kd.V_drewN | apply Kd.V_drew)); exact HO182.out) gb206 (Nat.le_of_eq hg.symm)) hb); have n4_ := Aside0.mk (Kd.V_below (Kd.V_elderB (by (with_reducible repeat (first | apply Kd.V_alloc | apply Kd.V_drewN | apply Kd.V_drew)); exact HO195.out) gb206 (Nat.le_of_eq hg.symm)) hb); have n5_ := Aside0.mk (blk_below (g := gb175) (o := .cells #[.slice Ao33 t180.length co33] 26 (0, 0)) (by (with_reducible repeat (first | refine blk_drewN ?_ _ | refine blk_drew ?_ | refine blk_alloc ?_ _)); exact BK175.out) hb); have n6_ := Aside0.mk (blk_below (g := gb192) (o := .cells #[.int .i64 t183, .int .i64 t184, .int .i64 t185, .int .i64 t186, .int .i64 t187, .int .i64 t188, .int .i64 t189, .string t190] 23 (0, 0)) (by (with_reducible repeat (first | refine blk_drewN ?_ _ | refine blk_drew ?_ | refine blk_alloc ?_ _)); exact BK192.out) hb); have n7_ := Aside0.mk (blk_below (g := gb205) (o := .cells #[.slice none 0 0] 26 (0, 0)) (by (with_reducible repeat (first | refine blk_drewN ?_ _ | refine blk_drew ?_ | refine blk_alloc ?_ _)); exact BK205.out) hb); have n8_ := Aside0.mk (below_step (by repeat (first | (with_reducible first | exact HB.out | apply below_alloc | apply pw_below_drewN | apply below_drew1 | refine below_set ?_ GE175.out | refine below_set ?_ GE192.out | refine below_set ?_ GE205.out) | exact HB.out)) hb); have n9_ := Aside0.mk (hbox); have n10_ := Aside0.mk ((by rw [hg]; exact (below_size (by repeat (first | (with_reducible first | exact HB.out | apply below_alloc | apply pw_below_drewN | apply below_drew1 | refine below_set ?_ GE175.out | refine below_set ?_ GE192.out | refine below_set ?_ GE205.out) | exact HB.out))) : w.heap.size ≤ gb206)); have n11_ := Aside0.mk ((by rw [hg]; exact (below_size (by repeat (first | (with_reducible first | exact HB.out | apply below_alloc | apply pw_below_drewN | apply below_drew1 | refine below_set ?_ GE175.out | refine below_set ?_ GE192.out | refine below_set ?_ GE205.out) | exact HB.out))) : w.heap.size ≤ gb206)); have n12_ := Aside0.mk ((by rw [hg]; exact Nat.ne_of_lt (blk_lt (g := gb175) (o := .cells #[.slice Ao33 t180.length co33] 26 (0, 0)) (by (with_reducible repeat (first | refine blk_drewN ?_ _ | refine blk_drew ?_ | refine blk_alloc ?_ _)); exact BK175.out)) : gb175 ≠ gb206)); have n13_ := Aside0.mk ((by rw [hg]; exact Nat.ne_of_gt (blk_lt (g := gb175) (o := .cells #[.slice Ao33 t180.length co33] 26 (0, 0)) (by (with_reducible repeat (first | refine blk_drewN ?_ _ | refine blk_drew ?_ | refine blk_alloc ?_ _)); exact BK175.out)) : gb206 ≠ gb175)); have n14_ := Aside0.mk ((by rw [hg]; exact Nat.ne_of_lt (blk_lt (g := gb192) (o := .cells #[.int .i64 t183, .int .i64 t184, .int .i64 t185, .int .i64 t186, .int .i64 t187, .int .i64 t188, .int .i64 t189, .string t190] 23 (0, 0)) (by (with_reducible repeat (first | refine blk_drewN ?_ _ | refine blk_drew ?_ | refine blk_alloc ?_ _)); exact BK192.out)) : gb192 ≠ gb206)); have n15_ := Aside0.mk ((by rw [hg]; exact Nat.ne_of_gt (blk_lt (g := gb192) (o := .cells #[.int .i64 t183, .int .i64 t184, .int .i64 t185, .int .i64 t186, .int .i64 t187, .int .i64 t188, .int .i64 t189, .string t190] 23 (0, 0)) (by (with_reducible repeat (first | refine blk_drewN ?_ _ | refine blk_drew ?_ | refine blk_alloc ?_ _)); exact BK192.out)) : gb206 ≠ gb192)); have n16_ := Aside0.mk ((by rw [hg]; exact Nat.ne_of_lt (blk_lt (g := gb205) (o := .cells #[.slice none 0 0] 26 (0, 0)) (by (with_reducible repeat (first | refine blk_drewN ?_ _ | refine blk_drew ?_ | refine blk_alloc ?_ _)); exact BK205.out)) : gb205 ≠ gb206)); have n17_ := Aside0.mk ((by rw [hg]; exact Nat.ne_of_gt (blk_lt (g := gb205) (o := .cells #[.slice none 0 0] 26 (0, 0)) (by (with_reducible repeat (first | refine blk_drewN ?_ _ | refine blk_drew ?_ | refine blk_alloc ?_ _)); exact BK205.out)) : gb206 ≠ gb205)); clear HO170; clear HO173; clear HO178; clear HO182; clear HO195; clear BK175; clear BK192; clear BK205; clear HB; have HO170 := n0_; have HO173 := n1_; have HO178 := n2_; have HO182 := n3_; have HO195 := n4_; have BK175 := n5_; have BK192 := n6_; have BK205 := n7_; have HB := n8_; have BK206 := n9_; have GW206 := n10_; have GE206 := n11_; have NB175_206 := n12_; have NB206_175 := n13_; have NB192_206 := n14_; have NB206_192 := n15_; have NB205_206 := n16_; have NB206_205 := n17_; clear n0_ n1_ n2_ n3_ n4_ n5_ n6_ n7_ n8_ n9_ n10_ n11_ n12_ n13_ n14_ n15_ n16_ n17_; clear hb hbox hg; obtain ⟨Ao40, co40, eo40⟩ := Kd.V_slice HO195.out; subst eo40; have hnb41 := NB205_175.out; have hnc41 := NB175_205.out; have hnb42 := NB205_192.out; have hnc42 := NB192_205.out; have hnb43 := NB205_206.out; have hnc43 := NB206_205.out; have hcz44_0 : w39.cell? ⟨gb205, 0, none⟩ = some (.slice none 0 0) := (blk_cell BK205.out 0).trans rfl; have hfz44_0 := blk_frozen BK205.out 0; have hnb45 := NB206_175.out; have hnc45 := NB175_206.out; have hnb46 := NB206_192.out; have hnc46 := NB192_206.out; have hcz47_0 : w39.cell? ⟨gb206, 0, none⟩ = some (.int .i64 0) := (blk_cell BK206.out 0).trans rfl; have hcz47_1 : w39.cell? ⟨gb206, 1, none⟩ = some (.int .i64 0) := (blk_cell BK206.out 1).trans rfl; have hcz47_2 : w39.cell? ⟨gb206, 2, none⟩ = some (.int .i64 0) := (blk_cell BK206.out 2).trans rfl; have hcz47_3 : w39.cell? ⟨gb206, 3, none⟩ = some (.int .i64 0) := (blk_cell BK206.out 3).trans rfl; have hcz47_4 : w39.cell? ⟨gb206, 4, none⟩ = some (.int .i64 0) := (blk_cell BK206.out 4).trans rfl; have hcz47_5 : w39.cell? ⟨gb206, 5, none⟩ = some (.int .i64 0) := (blk_cell BK206.out 5).trans rfl; have hcz47_6 : w39.cell? ⟨gb206, 6, none⟩ = some (.int .i64 0) := (blk_cell BK206.out 6).trans rfl; have hcz47_7 : w39.cell? ⟨gb206, 7, none⟩ = some (.string (⟨#[]⟩ : ByteArray)) := (blk_cell BK206.out 7).trans rfl; have hfz47_0 := blk_frozen BK206.out 0; have hfz47_1 := blk_frozen BK206.out 1; have hfz47_2 := blk_frozen BK206.out 2; have hfz47_3 := blk_frozen BK206.out 3; have hfz47_4 := blk_frozen BK206.out 4; have hfz47_5 := blk_frozen BK206.out 5; have hfz47_6 := blk_frozen BK206.out 6; have hfz47_7 := blk_frozen BK206.out 7; have hcz48_0 : w39.cell? ⟨gb192, 0, none⟩ = some (.int .i64 t183) := (blk_cell BK192.out 0).trans rfl; have hcz48_1 : w39.cell? ⟨gb192, 1, none⟩ = some (.int .i64 t184) := (blk_cell BK192.out 1).trans rfl; have hcz48_2 : w39.cell? ⟨gb192, 2, none⟩ = some (.int .i64 t185) := (blk_cell BK192.out 2).trans rfl; have hcz48_3 : w39.cell? ⟨gb192, 3, none⟩ = some (.int .i64 t186) := (blk_cell BK192.out 3).trans rfl; have hcz48_4 : w39.cell? ⟨gb192, 4, none⟩ = some (.int .i64 t187) := (blk_cell BK192.out 4).trans rfl; have hcz48_5 : w39.cell? ⟨gb192, 5, none⟩ = some (.int .i64 t188) := (blk_cell BK192.out 5).trans rfl; have hcz48_6 : w39.cell? ⟨gb192, 6, none⟩ = some (.int .i64 t189) := (blk_cell BK192.out 6).trans rfl; have hcz48_7 : w39.cell? ⟨gb192, 7, none⟩ = some (.string t190) := (blk_cell BK192.out 7).trans rfl; have hfz48_0 := blk_frozen BK192.out 0; have hfz48_1 := blk_frozen BK192.out 1; have hfz48_2 := blk_frozen BK192.out 2; have hfz48_3 := blk_frozen BK192.out 3; have hfz48_4 := blk_frozen BK192.out 4; have hfz48_5 := blk_frozen BK192.out 5; have hfz48_6 := blk_frozen BK192.out 6; have hfz48_7 := blk_frozen BK192.out 7; have hcz49_0 : w39.cell? ⟨gb175, 0, none⟩ = some (.slice Ao33 t180.length co33) := (blk_cell BK175.out 0).trans rfl; have hfz49_0 := blk_frozen BK175.out 0; have p207 : 0 ≤ (1 : Int) := (by omega); have q207 : 1 < (t180.length : Int) := of_decide_eq_true (by first | (with_reducible assumption) | assumption); obtain ⟨ad207, e207, hx207_0, hx207_1, hx207_2, hx207_3, hx207_4, hx207_5, hx207_6, hx207_7⟩ := at_T23 (Kd.V_reads' HO182.out).2.2 1 p207 q207; cases e207; (try simp only [show (1 : Int).toNat = 1 from rfl, Nat.reduceMul, Nat.reduceEqDiff, Go.Addr.add, ↓reduceIte] at hx207_0); (try simp only [show (1 : Int).toNat = 1 from rfl, Nat.reduceMul, Nat.reduceEqDiff, Go.Addr.add, ↓reduceIte] at hx207_1); (try simp only [show (1 : Int).toNat = 1 from rfl, Nat.reduceMul, Nat.reduceEqDiff, Go.Addr.add, ↓reduceIte] at hx207_2); (try simp only [show (1 : Int).toNat = 1 from rfl, Nat.reduceMul, Nat.reduceEqDiff, Go.Addr.add, ↓reduceIte] at hx207_3); (try simp only [show (1 : Int).toNat = 1 from rfl, Nat.reduceMul, Nat.reduceEqDiff, Go.Addr.add, ↓reduceIte] at hx207_4); (try simp only [show (1 : Int).toNat = 1 from rfl, Nat.reduceMul, Nat.reduceEqDiff, Go.Addr.add, ↓reduceIte] at hx207_5); (try simp only [show (1 : Int).toNat = 1 from rfl, Nat.reduceMul, Nat.reduceEqDiff, Go.Addr.add, ↓reduceIte] at hx207_6); (try simp only [show (1 : Int).toNat = 1 from rfl, Nat.reduceMul, Nat.reduceEqDiff, Go.Addr.add, ↓reduceIte] at hx207_7); have qi207 : (1 < t180.length) = True := eq_true (by omega); (try rw [show ((1 : Int)).toNat = 1 from rfl] at hx207_0); (try rw [show 1 * 8 = 8 from rfl] at hx207_0); (try rw [show ((1 : Int)).toNat = 1 from rfl] at hx207_1); (try rw [show 1 * 8 = 8 from rfl] at hx207_1); (try rw [show ((1 : Int)).toNat = 1 from rfl] at hx207_2); (try rw [show 1 * 8 = 8 from rfl] at hx207_2); (try rw [show ((1 : Int)).toNat = 1 from rfl] at hx207_3); (try rw [show 1 * 8 = 8 from rfl] at hx207_3); (try rw [show ((1 : Int)).toNat = 1 from rfl] at hx207_4); (try rw [show 1 * 8 = 8 from rfl] at hx207_4); (try rw [show ((1 : Int)).toNat = 1 from rfl] at hx207_5); (try rw [show 1 * 8 = 8 from rfl] at hx207_5); (try rw [show ((1 : Int)).toNat = 1 from rfl] at hx207_6); (try rw [show 1 * 8 = 8 from rfl] at hx207_6); (try rw [show ((1 : Int)).toNat = 1 from rfl] at hx207_7); (try rw [show 1 * 8 = 8 from rfl] at hx207_7); have hn207_0 : ad207.block ≠ gb205 := ((Kd.F_in (Kd.V_F HO182.out) rfl (by first | omega | (have z_ := of_eq_true qi207; omega) | (have z_ := of_eq_true q207; omega)) (by decide)).1.2); have hn207_1 : ad207.block ≠ gb206 := ((Kd.F_in (Kd.V_F HO182.out) rfl (by first | omega | (have z_ := of_eq_true qi207; omega) | (have z_ := of_eq_true q207; omega)) (by decide)).2); have hn207_2 : ad207.block ≠ gb206 := ((Kd.F_in (Kd.V_F HO182.out) rfl (by first | omega | (have z_ := of_eq_true qi207; omega) | (have z_ := of_eq_true q207; omega)) (by decide)).2); have hn207_3 : ad207.block ≠ gb206 := ((Kd.F_in (Kd.V_F HO182.out) rfl (by first | omega | (have z_ := of_eq_true qi207; omega) | (have z_ := of_eq_true q207; omega)) (by decide)).2); have hn207_4 : ad207.block ≠ gb206 := ((Kd.F_in (Kd.V_F HO182.out) rfl (by first | omega | (have z_ := of_eq_true qi207; omega) | (have z_ := of_eq_true q207; omega)) (by decide)).2); have hn207_5 : ad207.block ≠ gb206 := ((Kd.F_in (Kd.V_F HO182.out) rfl (by first | omega | (have z_ := of_eq_true qi207; omega) | (have z_ := of_eq_true q207; omega)) (by decide)).2); have hn207_6 : ad207.block ≠ gb206 := ((Kd.F_in (Kd.V_F HO182.out) rfl (by first | omega | (have z_ := of_eq_true qi207; omega) | (have z_ := of_eq_true q207; omega)) (by decide)).2); have hn207_7 : ad207.block ≠ gb206 := ((Kd.F_in (Kd.V_F HO182.out) rfl (by first | omega | (have z_ := of_eq_true qi207; omega) | (have z_ := of_eq_true q207; omega)) (by decide)).2); have hn207_8 : ad207.block ≠ gb206 := ((Kd.F_in (Kd.V_F HO182.out) rfl (by first | omega | (have z_ := of_eq_true qi207; omega) | (have z_ := of_eq_true q207; omega)) (by decide)).2); replace hx207_0 := (cell_far (p := ⟨gb205, 0, none⟩) (by first | (rw [add_block]; exact hn207_0) | (show (Addr.add _ _).block ≠ _; rw [add_block]; exact hn207_0) | exact hn207_0) (.slice Ao40 t193.length co40)).trans hx207_0; replace hx207_1 := (cell_far (p := ⟨gb205, 0, none⟩) (by first | (rw [add_block]; exact hn207_0) | (show (Addr.add _ _).block ≠ _; rw [add_block]; exact hn207_0) | exact hn207_0) (.slice Ao40 t193.length co40)).trans hx207_1; replace hx207_2 := (cell_far (p := ⟨gb205, 0, none⟩) (by first | (rw [add_block]; exact hn207_0) | (show (Addr.add _ _).block ≠ _; rw [add_block]; exact hn207_0) | exact hn207_0) (.slice Ao40 t193.length co40)).trans hx207_2; replace hx207_3 := (cell_far (p := ⟨gb205, 0, none⟩) (by first | (rw [add_block]; exact hn207_0) | (show (Addr.add _ _).block ≠ _; rw [add_block]; exact hn207_0) | exact hn207_0) (.slice Ao40 t193.length co40)).trans hx207_3; replace hx207_4 := (cell_far (p := ⟨gb205, 0, none⟩) (by first | (rw [add_block]; exact hn207_0) | (show (Addr.add _ _).block ≠ _; rw [add_block]; exact hn207_0) | exact hn207_0) (.slice Ao40 t193.length co40)).trans hx207_4; replace hx207_5 := (cell_far (p := ⟨gb205, 0, none⟩) (by first | (rw [add_block]; exact hn207_0) | (show (Addr.add _ _).block ≠ _; rw [add_block]; exact hn207_0) | exact hn207_0) (.slice Ao40 t193.length co40)).trans hx207_5; replace hx207_6 := (cell_far (p := ⟨gb205, 0, none⟩) (by first | (rw [add_block]; exact hn207_0) | (show (Addr.add _ _).block ≠ _; rw [add_block]; exact hn207_0) | exact hn207_0) (.slice Ao40 t193.length co40)).trans hx207_6; replace hx207_7 := (cell_far (p := ⟨gb205, 0, none⟩) (by first | (rw [add_block]; exact hn207_0) | (show (Addr.add _ _).block ≠ _; rw [add_block]; exact hn207_0) | exact hn207_0) (.slice Ao40 t193.length co40)).trans hx207_7; replace hx207_0 := (cell_far (p := ⟨gb206, 0, none⟩) (by first | (rw [add_block]; exact hn207_1) | (show (Addr.add _ _).block ≠ _; rw [add_block]; exact hn207_1) | exact hn207_1) (.int .i64 t196)).trans hx207_0; replace hx207_1 := (cell_far (p := ⟨gb206, 0, none⟩) (by first | (rw [add_block]; exact hn207_1) | (show (Addr.add _ _).block ≠ _; rw [add_block]; exact hn207_1) | exact hn207_1) (.int .i64 t196)).trans hx207_1; replace hx207_2 := (cell_far (p := ⟨gb206, 0, none⟩) (by first | (rw [add_block]; exact hn207_1) | (show (Addr.add _ _).block ≠ _; rw [add_block]; exact hn207_1) | exact hn207_1) (.int .i64 t196)).trans hx207_2; replace hx207_3 := (cell_far (p := ⟨gb206, 0, none⟩) (by first | (rw [add_block]; exact hn207_1) | (show (Addr.add _ _).block ≠ _; rw [add_block]; exact hn207_1) | exact hn207_1) (.int .i64 t196)).trans hx207_3; replace hx207_4 := (cell_far (p := ⟨gb206, 0, none⟩) (by first | (rw [add_block]; exact hn207_1) | (show (Addr.add _ _).block ≠ _; rw [add_block]; exact hn207_1) | exact hn207_1) (.int .i64 t196)).trans hx207_4; replace hx207_5 := (cell_far (p := ⟨gb206, 0, none⟩) (by first | (rw [add_block]; exact hn207_1) | (show (Addr.add _ _).block ≠ _; rw [add_block]; exact hn207_1) | exact hn207_1) (.int .i64 t196)).trans hx207_5; replace hx207_6 := (cell_far (p := ⟨gb206, 0, none⟩) (by first | (rw [add_block]; exact hn207_1) | (show (Addr.add _ _).block ≠ _; rw [add_block]; exact hn207_1) | exact hn207_1) (.int .i64 t196)).trans hx207_6; replace hx207_7 := (cell_far (p := ⟨gb206, 0, none⟩) (by first | (rw [add_block]; exact hn207_1) | (show (Addr.add _ _).block ≠ _; rw [add_block]; exact hn207_1) | exact hn207_1) (.int .i64 t196)).trans hx207_7; replace hx207_0 := (cell_far (p := ⟨gb206, 1, none⟩) (by first | (rw [add_block]; exact hn207_2) | (show (Addr.add _ _).block ≠ _; rw [add_block]; exact hn207_2) | exact hn207_2) (.int .i64 t197)).trans hx207_0; replace hx207_1 := (cell_far (p := ⟨gb206, 1, none⟩) (by first | (rw [add_block]; exact hn207_2) | (show (Addr.add _ _).block ≠ _; rw [add_block]; exact hn207_2) | exact hn207_2) (.int .i64 t197)).trans hx207_1; replace hx207_2 := (cell_far (p := ⟨gb206, 1, none⟩) (by first | (rw [add_block]; exact hn207_2) | (show (Addr.add _ _).block ≠ _; rw [add_block]; exact hn207_2) | exact hn207_2) (.int .i64 t197)).trans hx207_2; replace hx207_3 := (cell_far (p := ⟨gb206, 1, none⟩) (by first | (rw [add_block]; exact hn207_2) | (show (Addr.add _ _).block ≠ _; rw [add_block]; exact hn207_2) | exact hn207_2) (.int .i64 t197)).trans hx207_3; replace hx207_4 := (cell_far (p := ⟨gb206, 1, none⟩) (by first | (rw [add_block]; exact hn207_2) | (show (Addr.add _ _).block ≠ _; rw [add_block]; exact hn207_2) | exact hn207_2) (.int .i64 t197)).trans hx207_4; replace hx207_5 := (cell_far (p := ⟨gb206, 1, none⟩) (by first | (rw [add_block]; exact hn207_2) | (show (Addr.add _ _).block ≠ _; rw [add_block]; exact hn207_2) | exact hn207_2) (.int .i64 t197)).trans hx207_5; replace hx207_6 := (cell_far (p := ⟨gb206, 1, none⟩) (by first | (rw [add_block]; exact hn207_2) | (show (Addr.add _ _).block ≠ _; rw [add_block]; exact hn207_2) | exact hn207_2) (.int .i64 t197)).trans hx207_6; replace hx207_7 := (cell_far (p := ⟨gb206, 1, none⟩) (by first | (rw [add_block]; exact hn207_2) | (show (Addr.add _ _).block ≠ _; rw [add_block]; exact hn207_2) | exact hn207_2) (.int .i64 t197)).trans hx207_7; replace hx207_0 := (cell_far (p := ⟨gb206, 2, none⟩) (by first | (rw [add_block]; exact hn207_3) | (show (Addr.add _ _).block ≠ _; rw [add_block]; exact hn207_3) | exact hn207_3) (.int .i64 t198)).trans hx207_0; replace hx207_1 := (cell_far (p := ⟨gb206, 2, none⟩) (by first | (rw [add_block]; exact hn207_3) | (show (Addr.add _ _).block ≠ _; rw [add_block]; exact hn207_3) | exact hn207_3) (.int .i64 t198)).trans hx207_1; replace hx207_2 := (cell_far (p := ⟨gb206, 2, none⟩) (by first | (rw [add_block]; exact hn207_3) | (show (Addr.add _ _).block ≠ _; rw [add_block]; exact hn207_3) | exact hn207_3) (.int .i64 t198)).trans hx207_2; replace hx207_3 := (cell_far (p := ⟨gb206, 2, none⟩) (by first | (rw [add_block]; exact hn207_3) | (show (Addr.add _ _).block ≠ _; rw [add_block]; exact hn207_3) | exact hn207_3) (.int .i64 t198)).trans hx207_3; replace hx207_4 := (cell_far (p := ⟨gb206, 2, none⟩) (by first | (rw [add_block]; exact hn207_3) | (show (Addr.add _ _).block ≠ _; rw [add_block]; exact hn207_3) | exact hn207_3) (.int .i64 t198)).trans hx207_4; replace hx207_5 := (cell_far (p := ⟨gb206, 2, none⟩) (by first | (rw [add_block]; exact hn207_3) | (show (Addr.add _ _).block ≠ _; rw [add_block]; exact hn207_3) | exact hn207_3) (.int .i64 t198)).trans hx207_5; replace hx207_6 := (cell_far (p := ⟨gb206, 2, none⟩) (by first | (rw [add_block]; exact hn207_3) | (show (Addr.add _ _).block ≠ _; rw [add_block]; exact hn207_3) | exact hn207_3) (.int .i64 t198)).trans hx207_6; replace hx207_7 := (cell_far (p := ⟨gb206, 2, none⟩) (by first | (rw [add_block]; exact hn207_3) | (show (Addr.add _ _).block ≠ _; rw [add_block]; exact hn207_3) | exact hn207_3) (.int .i64 t198)).trans hx207_7; replace hx207_0 := (cell_far (p := ⟨gb206, 3, none⟩) (by first | (rw [add_block]; exact hn207_4) | (show (Addr.add _ _).block ≠ _; rw [add_block]; exact hn207_4) | exact hn207_4) (.int .i64 t199)).trans hx207_0; replace hx207_1 := (cell_far (p := ⟨gb206, 3, none⟩) (by first | (rw [add_block]; exact hn207_4) | (show (Addr.add _ _).block ≠ _; rw [add_block]; exact hn207_4) | exact hn207_4) (.int .i64 t199)).trans hx207_1; replace hx207_2 := (cell_far (p := ⟨gb206, 3, none⟩) (by first | (rw [add_block]; exact hn207_4) | (show (Addr.add _ _).block ≠ _; rw [add_block]; exact hn207_4) | exact hn207_4) (.int .i64 t199)).trans hx207_2; replace hx207_3 := (cell_far (p := ⟨gb206, 3, none⟩) (by first | (rw [add_block]; exact hn207_4) | (show (Addr.add _ _).block ≠ _; rw [add_block]; exact hn207_4) | exact hn207_4) (.int .i64 t199)).trans hx207_3; replace hx207_4 := (cell_far (p := ⟨gb206, 3, none⟩) (by first | (rw [add_block]; exact hn207_4) | (show (Addr.add _ _).block ≠ _; rw [add_block]; exact hn207_4) | exact hn207_4) (.int .i64 t199)).trans hx207_4; replace hx207_5 := (cell_far (p := ⟨gb206, 3, none⟩) (by first | (rw [add_block]; exact hn207_4) | (show (Addr.add _ _).block ≠ _; rw [add_block]; exact hn207_4) | exact hn207_4) (.int .i64 t199)).trans hx207_5; replace hx207_6 := (cell_far (p := ⟨gb206, 3, none⟩) (by first | (rw [add_block]; exact hn207_4) | (show (Addr.add _ _).block ≠ _; rw [add_block]; exact hn207_4) | exact hn207_4) (.int .i64 t199)).trans hx207_6; replace hx207_7 := (cell_far (p := ⟨gb206, 3, none⟩) (by first | (rw [add_block]; exact hn207_4) | (show (Addr.add _ _).block ≠ _; rw [add_block]; exact hn207_4) | exact hn207_4) (.int .i64 t199)).trans hx207_7; replace hx207_0 := (cell_far (p := ⟨gb206, 4, none⟩) (by first | (rw [add_block]; exact hn207_5) | (show (Addr.add _ _).block ≠ _; rw [add_block]; exact hn207_5) | exact hn207_5) (.int .i64 t200)).trans hx207_0; replace hx207_1 := (cell_far (p := ⟨gb206, 4, none⟩) (by first | (rw [add_block]; exact hn207_5) | (show (Addr.add _ _).block ≠ _; rw [add_block]; exact hn207_5) | exact hn207_5) (.int .i64 t200)).trans hx207_1; replace hx207_2 := (cell_far (p := ⟨gb206, 4, none⟩) (by first | (rw [add_block]; exact hn207_5) | (show (Addr.add _ _).block ≠ _; rw [add_block]; exact hn207_5) | exact hn207_5) (.int .i64 t200)).trans hx207_2; replace hx207_3 := (cell_far (p := ⟨gb206, 4, none⟩) (by first | (rw [add_block]; exact hn207_5) | (show (Addr.add _ _).block ≠ _; rw [add_block]; exact hn207_5) | exact hn207_5) (.int .i64 t200)).trans hx207_3; replace hx207_4 := (cell_far (p := ⟨gb206, 4, none⟩) (by first | (rw [add_block]; exact hn207_5) | (show (Addr.add _ _).block ≠ _; rw [add_block]; exact hn207_5) | exact hn207_5) (.int .i64 t200)).trans hx207_4; replace hx207_5 := (cell_far (p := ⟨gb206, 4, none⟩) (by first | (rw [add_block]; exact hn207_5) | (show (Addr.add _ _).block ≠ _; rw [add_block]; exact hn207_5) | exact hn207_5) (.int .i64 t200)).trans hx207_5; replace hx207_6 := (cell_far (p := ⟨gb206, 4, none⟩) (by first | (rw [add_block]; exact hn207_5) | (show (Addr.add _ _).block ≠ _; rw [add_block]; exact hn207_5) | exact hn207_5) (.int .i64 t200)).trans hx207_6; replace hx207_7 := (cell_far (p := ⟨gb206, 4, none⟩) (by first | (rw [add_block]; exact hn207_5) | (show (Addr.add _ _).block ≠ _; rw [add_block]; exact hn207_5) | exact hn207_5) (.int .i64 t200)).trans hx207_7; replace hx207_0 := (cell_far (p := ⟨gb206, 5, none⟩) (by first | (rw [add_block]; exact hn207_6) | (show (Addr.add _ _).block ≠ _; rw [add_block]; exact hn207_6) | exact hn207_6) (.int .i64 t201)).trans hx207_0; replace hx207_1 := (cell_far (p := ⟨gb206, 5, none⟩) (by first | (rw [add_block]; exact hn207_6) | (show (Addr.add _ _).block ≠ _; rw [add_block]; exact hn207_6) | exact hn207_6) (.int .i64 t201)).trans hx207_1; replace hx207_2 := (cell_far (p := ⟨gb206, 5, none⟩) (by first | (rw [add_block]; exact hn207_6) | (show (Addr.add _ _).block ≠ _; rw [add_block]; exact hn207_6) | exact hn207_6) (.int .i64 t201)).trans hx207_2; replace hx207_3 := (cell_far (p := ⟨gb206, 5, none⟩) (by first | (rw [add_block]; exact hn207_6) | (show (Addr.add _ _).block ≠ _; rw [add_block]; exact hn207_6) | exact hn207_6) (.int .i64 t201)).trans hx207_3; replace hx207_4 := (cell_far (p := ⟨gb206, 5, none⟩) (by first | (rw [add_block]; exact hn207_6) | (show (Addr.add _ _).block ≠ _; rw [add_block]; exact hn207_6) | exact hn207_6) (.int .i64 t201)).trans hx207_4; replace hx207_5 := (cell_far (p := ⟨gb206, 5, none⟩) (by first | (rw [add_block]; exact hn207_6) | (show (Addr.add _ _).block ≠ _; rw [add_block]; exact hn207_6) | exact hn207_6) (.int .i64 t201)).trans hx207_5; replace hx207_6 := (cell_far (p := ⟨gb206, 5, none⟩) (by first | (rw [add_block]; exact hn207_6) | (show (Addr.add _ _).block ≠ _; rw [add_block]; exact hn207_6) | exact hn207_6) (.int .i64 t201)).trans hx207_6; replace hx207_7 := (cell_far (p := ⟨gb206, 5, none⟩) (by first | (rw [add_block]; exact hn207_6) | (show (Addr.add _ _).block ≠ _; rw [add_block]; exact hn207_6) | exact hn207_6) (.int .i64 t201)).trans hx207_7; replace hx207_0 := (cell_far (p := ⟨gb206, 6, none⟩) (by first | (rw [add_block]; exact hn207_7) | (show (Addr.add _ _).block ≠ _; rw [add_block]; exact hn207_7) | exact hn207_7) (.int .i64 t202)).trans hx207_0; replace hx207_1 := (cell_far (p := ⟨gb206, 6, none⟩) (by first | (rw [add_block]; exact hn207_7) | (show (Addr.add _ _).block ≠ _; rw [add_block]; exact hn207_7) | exact hn207_7) (.int .i64 t202)).trans hx207_1; replace hx207_2 := (cell_far (p := ⟨gb206, 6, none⟩) (by first | (rw [add_block]; exact hn207_7) | (show (Addr.add _ _).block ≠ _; rw [add_block]; exact hn207_7) | exact hn207_7) (.int .i64 t202)).trans hx207_2; replace hx207_3 := (cell_far (p := ⟨gb206, 6, none⟩) (by first | (rw [add_block]; exact hn207_7) | (show (Addr.add _ _).block ≠ _; rw [add_block]; exact hn207_7) | exact hn207_7) (.int .i64 t202)).trans hx207_3; replace hx207_4 := (cell_far (p := ⟨gb206, 6, none⟩) (by first | (rw [add_block]; exact hn207_7) | (show (Addr.add _ _).block ≠ _; rw [add_block]; exact hn207_7) | exact hn207_7) (.int .i64 t202)).trans hx207_4; replace hx207_5 := (cell_far (p := ⟨gb206, 6, none⟩) (by first | (rw [add_block]; exact hn207_7) | (show (Addr.add _ _).block ≠ _; rw [add_block]; exact hn207_7) | exact hn207_7) (.int .i64 t202)).trans hx207_5; replace hx207_6 := (cell_far (p := ⟨gb206, 6, none⟩) (by first | (rw [add_block]; exact hn207_7) | (show (Addr.add _ _).block ≠ _; rw [add_block]; exact hn207_7) | exact hn207_7) (.int .i64 t202)).trans hx207_6; replace hx207_7 := (cell_far (p := ⟨gb206, 6, none⟩) (by first | (rw [add_block]; exact hn207_7) | (show (Addr.add _ _).block ≠ _; rw [add_block]; exact hn207_7) | exact hn207_7) (.int .i64 t202)).trans hx207_7; replace hx207_0 := (cell_far (p := ⟨gb206, 7, none⟩) (by first | (rw [add_block]; exact hn207_8) | (show (Addr.add _ _).block ≠ _; rw [add_block]; exact hn207_8) | exact hn207_8) (.string t203)).trans hx207_0; replace hx207_1 := (cell_far (p := ⟨gb206, 7, none⟩) (by first | (rw [add_block]; exact hn207_8) | (show (Addr.add _ _).block ≠ _; rw [add_block]; exact hn207_8) | exact hn207_8) (.string t203)).trans hx207_1; replace hx207_2 := (cell_far (p := ⟨gb206, 7, none⟩) (by first | (rw [add_block]; exact hn207_8) | (show (Addr.add _ _).block ≠ _; rw [add_block]; exact hn207_8) | exact hn207_8) (.string t203)).trans hx207_2; replace hx207_3 := (cell_far (p := ⟨gb206, 7, none⟩) (by first | (rw [add_block]; exact hn207_8) | (show (Addr.add _ _).block ≠ _; rw [add_block]; exact hn207_8) | exact hn207_8) (.string t203)).trans hx207_3; replace hx207_4 := (cell_far (p := ⟨gb206, 7, none⟩) (by first | (rw [add_block]; exact hn207_8) | (show (Addr.add _ _).block ≠ _; rw [add_block]; exact hn207_8) | exact hn207_8) (.string t203)).trans hx207_4; replace hx207_5 := (cell_far (p := ⟨gb206, 7, none⟩) (by first | (rw [add_block]; exact hn207_8) | (show (Addr.add _ _).block ≠ _; rw [add_block]; exact hn207_8) | exact hn207_8) (.string t203)).trans hx207_5; replace hx207_6 := (cell_far (p := ⟨gb206, 7, none⟩) (by first | (rw [add_block]; exact hn207_8) | (show (Addr.add _ _).block ≠ _; rw [add_block]; exact hn207_8) | exact hn207_8) (.string t203)).trans hx207_6; replace hx207_7 := (cell_far (p := ⟨gb206, 7, none⟩) (by first | (rw [add_block]; exact hn207_8) | (show (Addr.add _ _).block ≠ _; rw [add_block]; exact hn207_8) | exact hn207_8) (.string t203)).trans hx207_7; clear hn207_0; clear hn207_1; clear hn207_2; clear hn207_3; clear hn207_4; clear hn207_5; clear hn207_6; clear hn207_7; clear hn207_8; replace p207 := eq_true p207; replace q207 := eq_true q207) | (go_at_call 13; (with_reducible refine (net_Right.calls k _ _ t180 true _ ?side1 ?side2 A15.out).mono ?_); (case side1 => refine (Kd.V_reads' (e := 23) (base := w.heap.size) (ok := fun k_ => ((((some k_ ≠ (.slice Ao23 y168.length co23 : Value).ownBlock ∧ (some k_ ≠ (.slice Ao26 t171.length co26 : Value).ownBlock ∧ (some k_ ≠ (.slice Ao29 t176.length co29 : Value).ownBlock ∧ k_ ≠ gb175))) ∧ k_ ≠ gb192) ∧ k_ ≠ gb205) ∧ k_ ≠ gb206)) (n := t180.length) (c := co33) ?_).2.2; exact (by (with_reducible repeat (first | apply Kd.V_alloc | apply Kd.V_drewN | apply Kd.V_drew)); exact (Kd.V_mono (Kd.V_mono (Kd.V_far (p := ⟨gb206, 7, none⟩) (Kd.V_far (p := ⟨gb206, 6, none⟩) (Kd.V_far (p := ⟨gb206, 5, none⟩) (Kd.V_far (p := ⟨gb206, 4, none⟩) (Kd.V_far (p := ⟨gb206, 3, none⟩) (Kd.V_far (p := ⟨gb206, 2, none⟩) (Kd.V_far (p := ⟨gb206, 1, none⟩) (Kd.V_far (p := ⟨gb206, 0, none⟩) (Kd.V_far (p := ⟨gb205, 0, none⟩) (Kd.V_mono (Kd.V_mono HO182.out (fun k_ hk => (⟨hk, hk.1.2⟩ : _ ∧ k_ ≠ gb205))) (fun k_ hk => (⟨hk, hk.1.2⟩ : _ ∧ k_ ≠ gb206))) (fun _ hk => hk.1.2) (.slice Ao40 t193.length co40)) (fun _ hk => hk.2) (.int .i64 t196)) (fun _ hk => hk.2) (.int .i64 t197)) (fun _ hk => hk.2) (.int .i64 t198)) (fun _ hk => hk.2) (.int .i64 t199)) (fun _ hk => hk.2) (.int .i64 t200)) (fun _ hk => hk.2) (.int .i64 t201)) (fun _ hk => hk.2) (.int .i64 t202)) (fun _ hk => hk.2) (.string t203)) (fun _ h_ => h_.1)) (fun _ h_ => h_.1)))); (case side2 => exact (Kd.V_reads' HO182.out).2.1); rintro e w50 ⟨rfl, hb⟩; have n0_ := Aside0.mk (Kd.R_below (by (with_reducible repeat (first | apply Kd.R_alloc | apply Kd.R_drewN | apply Kd.R_drew)); exact (Kd.R_mono (Kd.R_mono (Kd.R_far (p := ⟨gb206, 7, none⟩) (Kd.R_far (p := ⟨gb206, 6, none⟩) (Kd.R_far (p := ⟨gb206, 5, none⟩) (Kd.R_far (p := ⟨gb206, 4, none⟩) (Kd.R_far (p := ⟨gb206, 3, none⟩) (Kd.R_far (p := ⟨gb206, 2, none⟩) (Kd.R_far (p := ⟨gb206, 1, none⟩) (Kd.R_far (p := ⟨gb206, 0, none⟩) (Kd.R_far (p := ⟨gb205, 0, none⟩) (Kd.R_mono (Kd.R_types HO170.out BK205.out (by decide)) (fun k_ hk => (⟨hk, hk.1.2⟩ : _ ∧ k_ ≠ gb206))) (fun _ hk => hk.1.2) (.slice Ao40 t193.length co40)) (fun _ hk => hk.2) (.int .i64 t196)) (fun _ hk => hk.2) (.int .i64 t197)) (fun _ hk => hk.2) (.int .i64 t198)) (fun _ hk => hk.2) (.int .i64 t199)) (fun _ hk => hk.2) (.int .i64 t200)) (fun _ hk => hk.2) (.int .i64 t201)) (fun _ hk => hk.2) (.int .i64 t202)) (fun _ hk => hk.2) (.string t203)) (fun _ h_ => h_.1)) (fun _ h_ => h_.1))) hb); have n1_ := Aside0.mk (Kd.R_below (by (with_reducible repeat (first | apply Kd.R_alloc | apply Kd.R_drewN | apply Kd.R_drew)); exact (Kd.R_mono (Kd.R_mono (Kd.R_far (p := ⟨gb206, 7, none⟩) (Kd.R_far (p := ⟨gb206, 6, none⟩) (Kd.R_far (p := ⟨gb206, 5, none⟩) (Kd.R_far (p := ⟨gb206, 4, none⟩) (Kd.R_far (p := ⟨gb206, 3, none⟩) (Kd.R_far (p := ⟨gb206, 2, none⟩) (Kd.R_far (p := ⟨gb206, 1, none⟩) (Kd.R_far (p := ⟨gb206, 0, none⟩) (Kd.R_far (p := ⟨gb205, 0, none⟩) (Kd.R_mono (Kd.R_types HO173.out BK205.out (by decide)) (fun k_ hk => (⟨hk, hk.1.2⟩ : _ ∧ k_ ≠ gb206))) (fun _ hk => hk.1.2) (.slice Ao40 t193.length co40)) (fun _ hk => hk.2) (.int .i64 t196)) (fun _ hk => hk.2) (.int .i64 t197)) (fun _ hk => hk.2) (.int .i64 t198)) (fun _ hk => hk.2) (.int .i64 t199)) (fun _ hk => hk.2) (.int .i64 t200)) (fun _ hk => hk.2) (.int .i64 t201)) (fun _ hk => hk.2) (.int .i64 t202)) (fun _ hk => hk.2) (.string t203)) (fun _ h_ => h_.1)) (fun _ h_ => h_.1))) hb); have n2_ := Aside0.mk (Kd.R_below (by (with_reducible repeat (first | apply Kd.R_alloc | apply Kd.R_drewN | apply Kd.R_drew)); exact (Kd.R_mono (Kd.R_mono (Kd.R_far (p := ⟨gb206, 7, none⟩) (Kd.R_far (p := ⟨gb206, 6, none⟩) (Kd.R_far (p := ⟨gb206, 5, none⟩) (Kd.R_far (p := ⟨gb206, 4, none⟩) (Kd.R_far (p := ⟨gb206, 3, none⟩) (Kd.R_far (p := ⟨gb206, 2, none⟩) (Kd.R_far (p := ⟨gb206, 1, none⟩) (Kd.R_far (p := ⟨gb206, 0, none⟩) (Kd.R_far (p := ⟨gb205, 0, none⟩) (Kd.R_mono (Kd.R_types HO178.out BK205.out (by decide)) (fun k_ hk => (⟨hk, hk.1.2⟩ : _ ∧ k_ ≠ gb206))) (fun _ hk => hk.1.2) (.slice Ao40 t193.length co40)) (fun _ hk => hk.2) (.int .i64 t196)) (fun _ hk => hk.2) (.int .i64 t197)) (fun _ hk => hk.2) (.int .i64 t198)) (fun _ hk => hk.2) (.int .i64 t199)) (fun _ hk => hk.2) (.int .i64 t200)) (fun _ hk => hk.2) (.int .i64 t201)) (fun _ hk => hk.2) (.int .i64 t202)) (fun _ hk => hk.2) (.string t203)) (fun _ h_ => h_.1)) (fun _ h_ => h_.1))) hb); have n3_ := Aside0.mk (Kd.V_below (by (with_reducible repeat (first | apply Kd.V_alloc | apply Kd.V_drewN | apply Kd.V_drew)); exact (Kd.V_mono (Kd.V_mono (Kd.V_far (p := ⟨gb206, 7, none⟩) (Kd.V_far (p := ⟨gb206, 6, none⟩) (Kd.V_far (p := ⟨gb206, 5, none⟩) (Kd.V_far (p := ⟨gb206, 4, none⟩) (Kd.V_far (p := ⟨gb206, 3, none⟩) (Kd.V_far (p := ⟨gb206, 2, none⟩) (Kd.V_far (p := ⟨gb206, 1, none⟩) (Kd.V_far (p := ⟨gb206, 0, none⟩) (Kd.V_far (p := ⟨gb205, 0, none⟩) (Kd.V_mono (Kd.V_mono HO182.out (fun k_ hk => (⟨hk, hk.1.2⟩ : _ ∧ k_ ≠ gb205))) (fun k_ hk => (⟨hk, hk.1.2⟩ : _ ∧ k_ ≠ gb206))) (fun _ hk => hk.1.2) (.slice Ao40 t193.length co40)) (fun _ hk => hk.2) (.int .i64 t196)) (fun _ hk => hk.2) (.int .i64 t197)) (fun _ hk => hk.2) (.int .i64 t198)) (fun _ hk => hk.2) (.int .i64 t199)) (fun _ hk => hk.2) (.int .i64 t200)) (fun _ hk => hk.2) (.int .i64 t201)) (fun _ hk => hk.2) (.int .i64 t202)) (fun _ hk => hk.2) (.string t203)) (fun _ h_ => h_.1)) (fun _ h_ => h_.1))) hb); have n4_ := Aside0.mk (Kd.V_below (by (with_reducible repeat (first | apply Kd.V_alloc | apply Kd.V_drewN | apply Kd.V_drew)); exact (Kd.V_mono (Kd.V_mono (Kd.V_far (p := ⟨gb206, 7, none⟩) (Kd.V_far (p := ⟨gb206, 6, none⟩) (Kd.V_far (p := ⟨gb206, 5, none⟩) (Kd.V_far (p := ⟨gb206, 4, none⟩) (Kd.V_far (p := ⟨gb206, 3, none⟩) (Kd.V_far (p := ⟨gb206, 2, none⟩) (Kd.V_far (p := ⟨gb206, 1, none⟩) (Kd.V_far (p := ⟨gb206, 0, none⟩) (Kd.V_far (p := ⟨gb205, 0, none⟩) (Kd.V_mono (Kd.V_mono HO195.out (fun k_ hk => (⟨hk, hk.1.2⟩ : _ ∧ k_ ≠ gb205))) (fun k_ hk => (⟨hk, hk.1.2⟩ : _ ∧ k_ ≠ gb206))) (fun _ hk => hk.1.2) (.slice Ao40 t193.length co40)) (fun _ hk => hk.2) (.int .i64 t196)) (fun _ hk => hk.2) (.int .i64 t197)) (fun _ hk => hk.2) (.int .i64 t198)) (fun _ hk => hk.2) (.int .i64 t199)) (fun _ hk => hk.2) (.int .i64 t200)) (fun _ hk => hk.2) (.int .i64 t201)) (fun _ hk => hk.2) (.int .i64 t202)) (fun _ hk => hk.2) (.string t203)) (fun _ h_ => h_.1)) (fun _ h_ => h_.1))) hb); have n5_ := Aside0.mk (blk_below (g := gb175) (o := .cells #[.slice (some ad207) t180.length co33] 26 (0, 0)) (by (with_reducible repeat (first | refine blk_drewN ?_ _ | refine blk_drew ?_ | refine blk_alloc ?_ _)); refine blk_far ?_ NB175_206.out _; (with_reducible repeat (first | refine blk_drewN ?_ _ | refine blk_drew ?_ | refine blk_alloc ?_ _)); refine blk_far ?_ NB175_206.out _; (with_reducible repeat (first | refine blk_drewN ?_ _ | refine blk_drew ?_ | refine blk_alloc ?_ _)); refine blk_far ?_ NB175_206.out _; (with_reducible repeat (first | refine blk_drewN ?_ _ | refine blk_drew ?_ | refine blk_alloc ?_ _)); refine blk_far ?_ NB175_206.out _; (with_reducible repeat (first | refine blk_drewN ?_ _ | refine blk_drew ?_ | refine blk_alloc ?_ _)); refine blk_far ?_ NB175_206.out _; (with_reducible repeat (first | refine blk_drewN ?_ _ | refine blk_drew ?_ | refine blk_alloc ?_ _)); refine blk_far ?_ NB175_206.out _; (with_reducible repeat (first | refine blk_drewN ?_ _ | refine blk_drew ?_ | refine blk_alloc ?_ _)); refine blk_far ?_ NB175_206.out _; (with_reducible repeat (first | refine blk_drewN ?_ _ | refine blk_drew ?_ | refine blk_alloc ?_ _)); refine blk_far ?_ NB175_206.out _; (with_reducible repeat (first | refine blk_drewN ?_ _ | refine blk_drew ?_ | refine blk_alloc ?_ _)); refine blk_far ?_ NB175_205.out _; (with_reducible repeat (first | refine blk_drewN ?_ _ | refine blk_drew ?_ | refine blk_alloc ?_ _)); exact BK175.out) hb); have n6_ := Aside0.mk (blk_below (g := gb192) (o := .cells #[.int .i64 t183, .int .i64 t184, .int .i64 t185, .int .i64 t186, .int .i64 t187, .int .i64 t188, .int .i64 t189, .string t190] 23 (0, 0)) (by (with_reducible repeat (first | refine blk_drewN ?_ _ | refine blk_drew ?_ | refine blk_alloc ?_ _)); refine blk_far ?_ NB192_206.out _; (with_reducible repeat (first | refine blk_drewN ?_ _ | refine blk_drew ?_ | refine blk_alloc ?_ _)); refine blk_far ?_ NB192_206.out _; (with_reducible repeat (first | refine blk_drewN ?_ _ | refine blk_drew ?_ | refine blk_alloc ?_ _)); refine blk_far ?_ NB192_206.out _; (with_reducible repeat (first | refine blk_drewN ?_ _ | refine blk_drew ?_ | refine blk_alloc ?_ _)); refine blk_far ?_ NB192_206.out _; (with_reducible repeat (first | refine blk_drewN ?_ _ | refine blk_drew ?_ | refine blk_alloc ?_ _)); refine blk_far ?_ NB192_206.out _; (with_reducible repeat (first | refine blk_drewN ?_ _ | refine blk_drew ?_ | refine blk_alloc ?_ _)); refine blk_far ?_ NB192_206.out _; (with_reducible repeat (first | refine blk_drewN ?_ _ | refine blk_drew ?_ | refine blk_alloc ?_ _)); refine blk_far ?_ NB192_206.out _; (with_reducible repeat (first | refine blk_drewN ?_ _ | refine blk_drew ?_ | refine blk_alloc ?_ _)); refine blk_far ?_ NB192_206.out _; (with_reducible repeat (first | refine blk_drewN ?_ _ | refine blk_drew ?_ | refine blk_alloc ?_ _)); refine blk_far ?_ NB192_205.out _; (with_reducible repeat (first | refine blk_drewN ?_ _ | refine blk_drew ?_ | refine blk_alloc ?_ _)); exact BK192.out) hb); have n7_ := Aside0.mk (blk_below (g := gb205) (o := .cells #[.slice Ao40 t193.length co40] 26 (0, 0)) (by (with_reducible repeat (first | refine blk_drewN ?_ _ | refine blk_drew ?_ | refine blk_alloc ?_ _)); refine blk_far ?_ NB205_206.out _; (with_reducible repeat (first | refine blk_drewN ?_ _ | refine blk_drew ?_ | refine blk_alloc ?_ _)); refine blk_far ?_ NB205_206.out _; (with_reducible repeat (first | refine blk_drewN ?_ _ | refine blk_drew ?_ | refine blk_alloc ?_ _)); refine blk_far ?_ NB205_206.out _; (with_reducible repeat (first | refine blk_drewN ?_ _ | refine blk_drew ?_ | refine blk_alloc ?_ _)); refine blk_far ?_ NB205_206.out _; (with_reducible repeat (first | refine blk_drewN ?_ _ | refine blk_drew ?_ | refine blk_alloc ?_ _)); refine blk_far ?_ NB205_206.out _; (with_reducible repeat (first | refine blk_drewN ?_ _ | refine blk_drew ?_ | refine blk_alloc ?_ _)); refine blk_far ?_ NB205_206.out _; (with_reducible repeat (first | refine blk_drewN ?_ _ | refine blk_drew ?_ | refine blk_alloc ?_ _)); refine blk_far ?_ NB205_206.out _; (with_reducible repeat (first | refine blk_drewN ?_ _ | refine blk_drew ?_ | refine blk_alloc ?_ _)); refine blk_far ?_ NB205_206.out _; (with_reducible repeat (first | refine blk_drewN ?_ _ | refine blk_drew ?_ | refine blk_alloc ?_ _)); refine blk_put (cs := #[.slice none 0 0]) ?_ 0 _ rfl; (with_reducible repeat (first | refine blk_drewN ?_ _ | refine blk_drew ?_ | refine blk_alloc ?_ _)); exact BK205.out) hb); have n8_ := Aside0.mk (blk_below (g := gb206) (o := .cells #[.int .i64 t196, .int .i64 t197, .int .i64 t198, .int .i64 t199, .int .i64 t200, .int .i64 t201, .int .i64 t202, .string t203] 23 (0, 0)) (by (with_reducible repeat (first | refine blk_drewN ?_ _ | refine blk_drew ?_ | refine blk_alloc ?_ _)); refine blk_put (cs := #[.int .i64 t196, .int .i64 t197, .int .i64 t198, .int .i64 t199, .int .i64 t200, .int .i64 t201, .int .i64 t202, .string (⟨#[]⟩ : ByteArray)]) ?_ 7 _ rfl; (with_reducible repeat (first | refine blk_drewN ?_ _ | refine blk_drew ?_ | refine blk_alloc ?_ _)); refine blk_put (cs := #[.int .i64 t196, .int .i64 t197, .int .i64 t198, .int .i64 t199, .int .i64 t200, .int .i64 t201, .int .i64 0, .string (⟨#[]⟩ : ByteArray)]) ?_ 6 _ rfl; (with_reducible repeat (first | refine blk_drewN ?_ _ | refine blk_drew ?_ | refine blk_alloc ?_ _)); refine blk_put (cs := #[.int .i64 t196, .int .i64 t197, .int .i64 t198, .int .i64 t199, .int .i64 t200, .int .i64 0, .int .i64 0, .string (⟨#[]⟩ : ByteArray)]) ?_ 5 _ rfl; (with_reducible repeat (first | refine blk_drewN ?_ _ | refine blk_drew ?_ | refine blk_alloc ?_ _)); refine blk_put (cs := #[.int .i64 t196, .int .i64 t197, .int .i64 t198, .int .i64 t199, .int .i64 0, .int .i64 0, .int .i64 0, .string (⟨#[]⟩ : ByteArray)]) ?_ 4 _ rfl; (with_reducible repeat (first | refine blk_drewN ?_ _ | refine blk_drew ?_ | refine blk_alloc ?_ _)); refine blk_put (cs := #[.int .i64 t196, .int .i64 t197, .int .i64 t198, .int .i64 0, .int .i64 0, .int .i64 0, .int .i64 0, .string (⟨#[]⟩ : ByteArray)]) ?_ 3 _ rfl; (with_reducible repeat (first | refine blk_drewN ?_ _ | refine blk_drew ?_ | refine blk_alloc ?_ _)); refine blk_put (cs := #[.int .i64 t196, .int .i64 t197, .int .i64 0, .int .i64 0, .int .i64 0, .int .i64 0, .int .i64 0, .string (⟨#[]⟩ : ByteArray)]) ?_ 2 _ rfl; (with_reducible repeat (first | refine blk_drewN ?_ _ | refine blk_drew ?_ | refine blk_alloc ?_ _)); refine blk_put (cs := #[.int .i64 t196, .int .i64 0, .int .i64 0, .int .i64 0, .int .i64 0, .int .i64 0, .int .i64 0, .string (⟨#[]⟩ : ByteArray)]) ?_ 1 _ rfl; (with_reducible repeat (first | refine blk_drewN ?_ _ | refine blk_drew ?_ | refine blk_alloc ?_ _)); refine blk_put (cs := #[.int .i64 0, .int .i64 0, .int .i64 0, .int .i64 0, .int .i64 0, .int .i64 0, .int .i64 0, .string (⟨#[]⟩ : ByteArray)]) ?_ 0 _ rfl; (with_reducible repeat (first | refine blk_drewN ?_ _ | refine blk_drew ?_ | refine blk_alloc ?_ _)); refine blk_far ?_ NB206_205.out _; (with_reducible repeat (first | refine blk_drewN ?_ _ | refine blk_drew ?_ | refine blk_alloc ?_ _)); exact BK206.out) hb); have n9_ := Aside0.mk (below_step (by repeat (first | (with_reducible first | exact HB.out | apply below_alloc | apply pw_below_drewN | apply below_drew1 | refine below_set ?_ GE175.out | refine below_set ?_ GE192.out | refine below_set ?_ GE205.out | refine below_set ?_ GE206.out) | exact HB.out)) hb); clear HO170; clear HO173; clear HO178; clear HO182; clear HO195; clear BK175; clear BK192; clear BK205; clear BK206; clear HB; have HO170 := n0_; have HO173 := n1_; have HO178 := n2_; have HO182 := n3_; have HO195 := n4_; have BK175 := n5_; have BK192 := n6_; have BK205 := n7_; have BK206 := n8_; have HB := n9_; clear n0_ n1_ n2_ n3_ n4_ n5_ n6_ n7_ n8_ n9_; (try clear hb); (try clear hb2); (try clear hk); (try clear hi)) | (go_at_call 23; (with_reducible refine (haywainlaw22_one.calls (⟨#[97]⟩ : ByteArray) t209 t210 t211 t212 t213 t214 t215 t216 _ A17.out).mono ?_); rintro e w51 ⟨rfl, hb⟩; have n0_ := Aside0.mk (Kd.R_below (by (with_reducible repeat (first | apply Kd.R_alloc | apply Kd.R_drewN | apply Kd.R_drew)); exact HO170.out) hb); have n1_ := Aside0.mk (Kd.R_below (by (with_reducible repeat (first | apply Kd.R_alloc | apply Kd.R_drewN | apply Kd.R_drew)); exact HO173.out) hb); have n2_ := Aside0.mk (Kd.R_below (by (with_reducible repeat (first | apply Kd.R_alloc | apply Kd.R_drewN | apply Kd.R_drew)); exact HO178.out) hb); have n3_ := Aside0.mk (Kd.V_below (by (with_reducible repeat (first | apply Kd.V_alloc | apply Kd.V_drewN | apply Kd.V_drew)); exact HO182.out) hb); have n4_ := Aside0.mk (Kd.V_below (by (with_reducible repeat (first | apply Kd.V_alloc | apply Kd.V_drewN | apply Kd.V_drew)); exact HO195.out) hb); have n5_ := Aside0.mk (blk_below (g := gb175) (o := .cells #[.slice (some ad207) t180.length co33] 26 (0, 0)) (by (with_reducible repeat (first | refine blk_drewN ?_ _ | refine blk_drew ?_ | refine blk_alloc ?_ _)); exact BK175.out) hb); have n6_ := Aside0.mk (blk_below (g := gb192) (o := .cells #[.int .i64 t183, .int .i64 t184, .int .i64 t185, .int .i64 t186, .int .i64 t187, .int .i64 t188, .int .i64 t189, .string t190] 23 (0, 0)) (by (with_reducible repeat (first | refine blk_drewN ?_ _ | refine blk_drew ?_ | refine blk_alloc ?_ _)); exact BK192.out) hb); have n7_ := Aside0.mk (blk_below (g := gb205) (o := .cells #[.slice Ao40 t193.length co40] 26 (0, 0)) (by (with_reducible repeat (first | refine blk_drewN ?_ _ | refine blk_drew ?_ | refine blk_alloc ?_ _)); exact BK205.out) hb); have n8_ := Aside0.mk (blk_below (g := gb206) (o := .cells #[.int .i64 t196, .int .i64 t197, .int .i64 t198, .int .i64 t199, .int .i64 t200, .int .i64 t201, .int .i64 t202, .string t203] 23 (0, 0)) (by (with_reducible repeat (first | refine blk_drewN ?_ _ | refine blk_drew ?_ | refine blk_alloc ?_ _)); exact BK206.out) hb); have n9_ := Aside0.mk (below_step (by repeat (first | (with_reducible first | exact HB.out | apply below_alloc | apply pw_below_drewN | apply below_drew1 | refine below_set ?_ GE175.out | refine below_set ?_ GE192.out | refine below_set ?_ GE205.out | refine below_set ?_ GE206.out) | exact HB.out)) hb); clear HO170; clear HO173; clear HO178; clear HO182; clear HO195; clear BK175; clear BK192; clear BK205; clear BK206; clear HB; have HO170 := n0_; have HO173 := n1_; have HO178 := n2_; have HO182 := n3_; have HO195 := n4_; have BK175 := n5_; have BK192 := n6_; have BK205 := n7_; have BK206 := n8_; have HB := n9_; clear n0_ n1_ n2_ n3_ n4_ n5_ n6_ n7_ n8_ n9_; (try clear hb); (try clear hb2); (try clear hk); (try clear hi)) | (go_at_call 10; (with_reducible refine (net_Fair.calls t209 t210 t211 t212 t213 t214 t215 t216 t217 _ A18.out).mono ?_); rintro e w52 ⟨rfl, hb⟩; have n0_ := Aside0.mk (Kd.R_below (by (with_reducible repeat (first | apply Kd.R_alloc | apply Kd.R_drewN | apply Kd.R_drew)); exact HO170.out) hb); have n1_ := Aside0.mk (Kd.R_below (by (with_reducible repeat (first | apply Kd.R_alloc | apply Kd.R_drewN | apply Kd.R_drew)); exact HO173.out) hb); have n2_ := Aside0.mk (Kd.R_below (by (with_reducible repeat (first | apply Kd.R_alloc | apply Kd.R_drewN | apply Kd.R_drew)); exact HO178.out) hb); have n3_ := Aside0.mk (Kd.V_below (by (with_reducible repeat (first | apply Kd.V_alloc | apply Kd.V_drewN | apply Kd.V_drew)); exact HO182.out) hb); have n4_ := Aside0.mk (Kd.V_below (by (with_reducible repeat (first | apply Kd.V_alloc | apply Kd.V_drewN | apply Kd.V_drew)); exact HO195.out) hb); have n5_ := Aside0.mk (blk_below (g := gb175) (o := .cells #[.slice (some ad207) t180.length co33] 26 (0, 0)) (by (with_reducible repeat (first | refine blk_drewN ?_ _ | refine blk_drew ?_ | refine blk_alloc ?_ _)); exact BK175.out) hb); have n6_ := Aside0.mk (blk_below (g := gb192) (o := .cells #[.int .i64 t183, .int .i64 t184, .int .i64 t185, .int .i64 t186, .int .i64 t187, .int .i64 t188, .int .i64 t189, .string t190] 23 (0, 0)) (by (with_reducible repeat (first | refine blk_drewN ?_ _ | refine blk_drew ?_ | refine blk_alloc ?_ _)); exact BK192.out) hb); have n7_ := Aside0.mk (blk_below (g := gb205) (o := .cells #[.slice Ao40 t193.length co40] 26 (0, 0)) (by (with_reducible repeat (first | refine blk_drewN ?_ _ | refine blk_drew ?_ | refine blk_alloc ?_ _)); exact BK205.out) hb); have n8_ := Aside0.mk (blk_below (g := gb206) (o := .cells #[.int .i64 t196, .int .i64 t197, .int .i64 t198, .int .i64 t199, .int .i64 t200, .int .i64 t201, .int .i64 t202, .string t203] 23 (0, 0)) (by (with_reducible repeat (first | refine blk_drewN ?_ _ | refine blk_drew ?_ | refine blk_alloc ?_ _)); exact BK206.out) hb); have n9_ := Aside0.mk (below_step (by repeat (first | (with_reducible first | exact HB.out | apply below_alloc | apply pw_below_drewN | apply below_drew1 | refine below_set ?_ GE175.out | refine below_set ?_ GE192.out | refine below_set ?_ GE205.out | refine below_set ?_ GE206.out) | exact HB.out)) hb); clear HO170; clear HO173; clear HO178; clear HO182; clear HO195; clear BK175; clear BK192; clear BK205; clear BK206; clear HB; have HO170 := n0_; have HO173 := n1_; have HO178 := n2_; have HO182 := n3_; have HO195 := n4_; have BK175 := n5_; have BK192 := n6_; have BK205 := n7_; have BK206 := n8_; have HB := n9_; clear n0_ n1_ n2_ n3_ n4_ n5_ n6_ n7_ n8_ n9_; (try clear hb); (try clear hb2); (try clear hk); (try clear hi)))
          go_ret
          exact ⟨by first | rfl | (simp [errW_none, errW_some] <;> rfl) | (simp [*, errW_none, errW_some] <;> rfl), by repeat (first | (with_reducible first | exact HB.out | apply below_alloc | apply pw_below_drewN | apply below_drew1 | refine below_set ?_ GE175.out | refine below_set ?_ GE192.out | refine below_set ?_ GE205.out | refine below_set ?_ GE206.out) | exact HB.out)⟩
         ·replace c16 := Bool.eq_false_iff.mpr c16
          subst c16
          have H1 : (none) = some r := by rw [if_neg (show ¬ (false = true) by decide)] at H; exact H
          clear H
          have H := H1
          clear H1
          exact absurd H (by simp)
        ·rw [if_neg c14] at H
         exact absurd H (by simp)
       ·rw [if_neg c13] at H
        exact absurd H (by simp)
      ·rw [if_neg c12] at H
       exact absurd H (by simp)
     ·rw [if_neg c11] at H
      exact absurd H (by simp)
    ·rw [if_neg c10] at H
     exact absurd H (by simp)
   ·rw [if_neg c9] at H
    exact absurd H (by simp)
  ·rw [if_neg c8] at H
   exact absurd H (by simp)
 ·rw [if_neg c7] at H
  exact absurd H (by simp)

/-! ### haywainref22_Fair: function 11 -/
def haywainref22_Fair.j0 : Nat → Bool → Int → Int → Int → Int → Int → Int → Int → ByteArray → Option (Bool)
 | 0, _, _, _, _, _, _, _, _, _ => none
 | k + 1, x27, x219000, x219001, x219002, x219003, x219004, x219005, x219006, x219007 => if x27 = true then (some false) else (if x219001 < 1 then (some false) else (if x219001 > 1099511627776 then (some false) else (if x219003 < 0 then (some false) else (if x219003 > 1099511627776 then (some false) else (if x219004 < 0 then (some false) else (if x219004 > 2 then (some false) else (if x219005 ≥ 0 then (if x219005 ≤ 1099511627776 then (if x219006 ≥ 0 then (if x219006 ≤ 1099511627776 then (some (decide ((x219007.size : Int) ≤ 4000))) else (some false)) else (some false)) else (some false)) else (some false))))))))
def haywainref22_Fair.f (k : Nat) (a0_0 : Int) (a0_1 : Int) (a0_2 : Int) (a0_3 : Int) (a0_4 : Int) (a0_5 : Int) (a0_6 : Int) (a0_7 : ByteArray) : Option (Bool) := if a0_0 < 0 then (haywainref22_Fair.j0 k true a0_0 a0_1 a0_2 a0_3 a0_4 a0_5 a0_6 a0_7) else (if a0_0 > 99 then (haywainref22_Fair.j0 k true a0_0 a0_1 a0_2 a0_3 a0_4 a0_5 a0_6 a0_7) else (if a0_2 < 0 then (haywainref22_Fair.j0 k true a0_0 a0_1 a0_2 a0_3 a0_4 a0_5 a0_6 a0_7) else (if a0_2 > 99 then (haywainref22_Fair.j0 k true a0_0 a0_1 a0_2 a0_3 a0_4 a0_5 a0_6 a0_7) else (haywainref22_Fair.j0 k (a0_0 == a0_2) a0_0 a0_1 a0_2 a0_3 a0_4 a0_5 a0_6 a0_7))))
theorem haywainref22_Fair.mono_l : ∀ k, (∀ y0 y1 y2 y3 y4 y5 y6 y7 y8, LeO (haywainref22_Fair.j0 k y0 y1 y2 y3 y4 y5 y6 y7 y8) (haywainref22_Fair.j0 (k + 1) y0 y1 y2 y3 y4 y5 y6 y7 y8))
 | 0 => fun _ _ _ _ _ _ _ _ _ r h => by simp [haywainref22_Fair.j0] at h
 | k + 1 => by
  have ih0 := haywainref22_Fair.mono_l k
  ·intro y0 y1 y2 y3 y4 y5 y6 y7 y8
   unfold haywainref22_Fair.j0
   repeat' first
   | (with_reducible exact ih0 _ _ _ _ _ _ _ _ _)
   | (with_reducible exact LeO.refl _)
   | (with_reducible exact LeO.none _)
   | (with_reducible refine LeO.ite ?_ ?_)
   | (with_reducible refine LeO.bind ?_ (fun _ => ?_))
   | exact ih0 _ _ _ _ _ _ _ _ _
   | exact LeO.none _
   | refine LeO.ite ?_ ?_
   | refine LeO.bind ?_ (fun _ => ?_)
theorem haywainref22_Fair.mono : ∀ a0 a1 a2 a3 a4 a5 a6 a7 k, LeO (haywainref22_Fair.f k a0 a1 a2 a3 a4 a5 a6 a7) (haywainref22_Fair.f (k + 1) a0 a1 a2 a3 a4 a5 a6 a7) := by
 intro a0 a1 a2 a3 a4 a5 a6 a7 k
 have ih0 := haywainref22_Fair.mono_l k
 unfold haywainref22_Fair.f
 repeat' first
   | (with_reducible exact ih0 _ _ _ _ _ _ _ _ _)
   | (with_reducible exact LeO.refl _)
   | (with_reducible exact LeO.none _)
   | (with_reducible refine LeO.ite ?_ ?_)
   | (with_reducible refine LeO.bind ?_ (fun _ => ?_))
   | exact ih0 _ _ _ _ _ _ _ _ _
   | exact LeO.none _
   | refine LeO.ite ?_ ?_
   | refine LeO.bind ?_ (fun _ => ?_)
set_option maxHeartbeats 8000000 in
set_option maxRecDepth 100000 in
theorem haywainref22_Fair.calls (k : Nat) (a0_0 : Int) (a0_1 : Int) (a0_2 : Int) (a0_3 : Int) (a0_4 : Int) (a0_5 : Int) (a0_6 : Int) (a0_7 : ByteArray) (r : Bool) (w : World) (h : haywainref22_Fair.f k a0_0 a0_1 a0_2 a0_3 a0_4 a0_5 a0_6 a0_7 = some r) :
  Calls Try.prog 11 #[.agg #[.int .i64 a0_0, .int .i64 a0_1, .int .i64 a0_2, .int .i64 a0_3, .int .i64 a0_4, .int .i64 a0_5, .int .i64 a0_6, .string a0_7]] w fun e w' => e = .returned (.bool r) ∧ Below w.heap.size w w' := by
 have hu31 := Try.underlying31
 have HB := Aside0.mk (Below.refl w.heap.size w)
 have H : (if a0_0 < 0 then (haywainref22_Fair.j0 k true a0_0 a0_1 a0_2 a0_3 a0_4 a0_5 a0_6 a0_7) else (if a0_0 > 99 then (haywainref22_Fair.j0 k true a0_0 a0_1 a0_2 a0_3 a0_4 a0_5 a0_6 a0_7) else (if a0_2 < 0 then (haywainref22_Fair.j0 k true a0_0 a0_1 a0_2 a0_3 a0_4 a0_5 a0_6 a0_7) else (if a0_2 > 99 then (haywainref22_Fair.j0 k true a0_0 a0_1 a0_2 a0_3 a0_4 a0_5 a0_6 a0_7) else (haywainref22_Fair.j0 k (a0_0 == a0_2) a0_0 a0_1 a0_2 a0_3 a0_4 a0_5 a0_6 a0_7))))) = some r := h
 clear h
 have HC2 := Aside0.mk H
 clear H
 go_enter Try.func11, Try.ntmps11
 go_upto_region 1 with (first | ((with_reducible refine gate_dst (N := 1) rfl ?_); (try (refine gate_guard (by rfl) ?_; dsimp only)); refine box_event ?hg (N := 1) ?hd (cs := #[.int .i64 a0_0, .int .i64 a0_1, .int .i64 a0_2, .int .i64 a0_3, .int .i64 a0_4, .int .i64 a0_5, .int .i64 a0_6, .string a0_7]) (t := 31) ?hr ?_; (case hd => rfl); (case hg => rfl); (case hr => first | (go_simp; done) | (go_simp; rfl)); intro gb218 hg w3 hbox hb; have n0_ := Aside0.mk (below_step (by repeat (first | (with_reducible first | exact HB.out | apply below_alloc | apply pw_below_drewN | apply below_drew1) | exact HB.out)) hb); have n1_ := Aside0.mk (hbox); have n2_ := Aside0.mk ((by rw [hg]; exact (below_size (by repeat (first | (with_reducible first | exact HB.out | apply below_alloc | apply pw_below_drewN | apply below_drew1) | exact HB.out))) : w.heap.size ≤ gb218)); have n3_ := Aside0.mk ((by rw [hg]; exact (below_size (by repeat (first | (with_reducible first | exact HB.out | apply below_alloc | apply pw_below_drewN | apply below_drew1) | exact HB.out))) : w.heap.size ≤ gb218)); clear HB; have HB := n0_; have BK218 := n1_; have GW218 := n2_; have GE218 := n3_; clear n0_ n1_ n2_ n3_; clear hb hbox hg))
 (try simp only [Act.put, List.setIfInBounds_toArray, List.set_cons_zero, List.set_cons_succ])
 go_cut [27] (fun v27 wc => ∃ (kq : Nat) (x27_1 : Bool), v27 = .bool x27_1 ∧ Aside0 (haywainref22_Fair.j0 kq x27_1 a0_0 a0_1 a0_2 a0_3 a0_4 a0_5 a0_6 a0_7 = some r) ∧ Aside0 (kq ≤ k) ∧ Aside0 (wc.heap[gb218]? = some (.cells #[.int .i64 a0_0, .int .i64 a0_1, .int .i64 a0_2, .int .i64 a0_3, .int .i64 a0_4, .int .i64 a0_5, .int .i64 a0_6, .string a0_7] 31 (0, 0))) ∧ Aside0 (Below w.heap.size w wc))
 case first =>
  have H := HC2.out
  clear HC2
  by_cases c4 : a0_0 < 0
  ·rw [if_pos c4] at H
   have c4b0 : decide (a0_0 < 0) = true := decide_eq_true c4
   clear c4
   (first | rw [c4b0] | (simp only [i64_w, i32_w]; rw [c4b0]) | skip)
   have H' := Aside0.mk H
   clear H
   have hcz5_0 : w3.cell? ⟨gb218, 0, none⟩ = some (.int .i64 a0_0) := (blk_cell BK218.out 0).trans rfl
   have hcz5_1 : w3.cell? ⟨gb218, 1, none⟩ = some (.int .i64 a0_1) := (blk_cell BK218.out 1).trans rfl
   have hcz5_2 : w3.cell? ⟨gb218, 2, none⟩ = some (.int .i64 a0_2) := (blk_cell BK218.out 2).trans rfl
   have hcz5_3 : w3.cell? ⟨gb218, 3, none⟩ = some (.int .i64 a0_3) := (blk_cell BK218.out 3).trans rfl
   have hcz5_4 : w3.cell? ⟨gb218, 4, none⟩ = some (.int .i64 a0_4) := (blk_cell BK218.out 4).trans rfl
   have hcz5_5 : w3.cell? ⟨gb218, 5, none⟩ = some (.int .i64 a0_5) := (blk_cell BK218.out 5).trans rfl
   have hcz5_6 : w3.cell? ⟨gb218, 6, none⟩ = some (.int .i64 a0_6) := (blk_cell BK218.out 6).trans rfl
   have hcz5_7 : w3.cell? ⟨gb218, 7, none⟩ = some (.string a0_7) := (blk_cell BK218.out 7).trans rfl
   have hfz5_0 := blk_frozen BK218.out 0
   have hfz5_1 := blk_frozen BK218.out 1
   have hfz5_2 := blk_frozen BK218.out 2
   have hfz5_3 := blk_frozen BK218.out 3
   have hfz5_4 := blk_frozen BK218.out 4
   have hfz5_5 := blk_frozen BK218.out 5
   have hfz5_6 := blk_frozen BK218.out 6
   have hfz5_7 := blk_frozen BK218.out 7
   go_wp2
   go_meet
   case rel => exact ⟨_, (true), (by first | rfl | (simp; done) | (simp [*]; done)), H', ⟨by first | omega | exact Nat.le_refl _⟩, ⟨by (with_reducible repeat (first | refine blk_drewN ?_ _ | refine blk_drew ?_ | refine blk_alloc ?_ _)); exact BK218.out⟩, ⟨by repeat (first | (with_reducible first | exact HB.out | apply below_alloc | apply pw_below_drewN | apply below_drew1 | refine below_set ?_ GE218.out) | exact HB.out)⟩⟩
  ·rw [if_neg c4] at H
   have c4b0 : decide (a0_0 < 0) = false := decide_eq_false c4
   clear c4
   (first | rw [c4b0] | (simp only [i64_w, i32_w]; rw [c4b0]) | skip)
   by_cases c6 : a0_0 > 99
   ·rw [if_pos c6] at H
    have c6b0 : decide (99 < a0_0) = true := decide_eq_true c6
    clear c6
    have H' := Aside0.mk H
    clear H
    have hcz7_0 : w3.cell? ⟨gb218, 0, none⟩ = some (.int .i64 a0_0) := (blk_cell BK218.out 0).trans rfl
    have hcz7_1 : w3.cell? ⟨gb218, 1, none⟩ = some (.int .i64 a0_1) := (blk_cell BK218.out 1).trans rfl
    have hcz7_2 : w3.cell? ⟨gb218, 2, none⟩ = some (.int .i64 a0_2) := (blk_cell BK218.out 2).trans rfl
    have hcz7_3 : w3.cell? ⟨gb218, 3, none⟩ = some (.int .i64 a0_3) := (blk_cell BK218.out 3).trans rfl
    have hcz7_4 : w3.cell? ⟨gb218, 4, none⟩ = some (.int .i64 a0_4) := (blk_cell BK218.out 4).trans rfl
    have hcz7_5 : w3.cell? ⟨gb218, 5, none⟩ = some (.int .i64 a0_5) := (blk_cell BK218.out 5).trans rfl
    have hcz7_6 : w3.cell? ⟨gb218, 6, none⟩ = some (.int .i64 a0_6) := (blk_cell BK218.out 6).trans rfl
    have hcz7_7 : w3.cell? ⟨gb218, 7, none⟩ = some (.string a0_7) := (blk_cell BK218.out 7).trans rfl
    have hfz7_0 := blk_frozen BK218.out 0
    have hfz7_1 := blk_frozen BK218.out 1
    have hfz7_2 := blk_frozen BK218.out 2
    have hfz7_3 := blk_frozen BK218.out 3
    have hfz7_4 := blk_frozen BK218.out 4
    have hfz7_5 := blk_frozen BK218.out 5
    have hfz7_6 := blk_frozen BK218.out 6
    have hfz7_7 := blk_frozen BK218.out 7
    go_wp2
    go_meet
    case rel => exact ⟨_, (true), (by first | rfl | (simp; done) | (simp [*]; done)), H', ⟨by first | omega | exact Nat.le_refl _⟩, ⟨by (with_reducible repeat (first | refine blk_drewN ?_ _ | refine blk_drew ?_ | refine blk_alloc ?_ _)); exact BK218.out⟩, ⟨by repeat (first | (with_reducible first | exact HB.out | apply below_alloc | apply pw_below_drewN | apply below_drew1 | refine below_set ?_ GE218.out) | exact HB.out)⟩⟩
   ·rw [if_neg c6] at H
    have c6b0 : decide (99 < a0_0) = false := decide_eq_false c6
    clear c6
    by_cases c8 : a0_2 < 0
    ·rw [if_pos c8] at H
     have c8b0 : decide (a0_2 < 0) = true := decide_eq_true c8
     clear c8
     have H' := Aside0.mk H
     clear H
     have hcz9_0 : w3.cell? ⟨gb218, 0, none⟩ = some (.int .i64 a0_0) := (blk_cell BK218.out 0).trans rfl
     have hcz9_1 : w3.cell? ⟨gb218, 1, none⟩ = some (.int .i64 a0_1) := (blk_cell BK218.out 1).trans rfl
     have hcz9_2 : w3.cell? ⟨gb218, 2, none⟩ = some (.int .i64 a0_2) := (blk_cell BK218.out 2).trans rfl
     have hcz9_3 : w3.cell? ⟨gb218, 3, none⟩ = some (.int .i64 a0_3) := (blk_cell BK218.out 3).trans rfl
     have hcz9_4 : w3.cell? ⟨gb218, 4, none⟩ = some (.int .i64 a0_4) := (blk_cell BK218.out 4).trans rfl
     have hcz9_5 : w3.cell? ⟨gb218, 5, none⟩ = some (.int .i64 a0_5) := (blk_cell BK218.out 5).trans rfl
     have hcz9_6 : w3.cell? ⟨gb218, 6, none⟩ = some (.int .i64 a0_6) := (blk_cell BK218.out 6).trans rfl
     have hcz9_7 : w3.cell? ⟨gb218, 7, none⟩ = some (.string a0_7) := (blk_cell BK218.out 7).trans rfl
     have hfz9_0 := blk_frozen BK218.out 0
     have hfz9_1 := blk_frozen BK218.out 1
     have hfz9_2 := blk_frozen BK218.out 2
     have hfz9_3 := blk_frozen BK218.out 3
     have hfz9_4 := blk_frozen BK218.out 4
     have hfz9_5 := blk_frozen BK218.out 5
     have hfz9_6 := blk_frozen BK218.out 6
     have hfz9_7 := blk_frozen BK218.out 7
     go_wp2
     go_meet
     case rel => exact ⟨_, (true), (by first | rfl | (simp; done) | (simp [*]; done)), H', ⟨by first | omega | exact Nat.le_refl _⟩, ⟨by (with_reducible repeat (first | refine blk_drewN ?_ _ | refine blk_drew ?_ | refine blk_alloc ?_ _)); exact BK218.out⟩, ⟨by repeat (first | (with_reducible first | exact HB.out | apply below_alloc | apply pw_below_drewN | apply below_drew1 | refine below_set ?_ GE218.out) | exact HB.out)⟩⟩
    ·rw [if_neg c8] at H
     have c8b0 : decide (a0_2 < 0) = false := decide_eq_false c8
     clear c8
     by_cases c10 : a0_2 > 99
     ·rw [if_pos c10] at H
      have c10b0 : decide (99 < a0_2) = true := decide_eq_true c10
      clear c10
      have H' := Aside0.mk H
      clear H
      have hcz11_0 : w3.cell? ⟨gb218, 0, none⟩ = some (.int .i64 a0_0) := (blk_cell BK218.out 0).trans rfl
      have hcz11_1 : w3.cell? ⟨gb218, 1, none⟩ = some (.int .i64 a0_1) := (blk_cell BK218.out 1).trans rfl
      have hcz11_2 : w3.cell? ⟨gb218, 2, none⟩ = some (.int .i64 a0_2) := (blk_cell BK218.out 2).trans rfl
      have hcz11_3 : w3.cell? ⟨gb218, 3, none⟩ = some (.int .i64 a0_3) := (blk_cell BK218.out 3).trans rfl
      have hcz11_4 : w3.cell? ⟨gb218, 4, none⟩ = some (.int .i64 a0_4) := (blk_cell BK218.out 4).trans rfl
      have hcz11_5 : w3.cell? ⟨gb218, 5, none⟩ = some (.int .i64 a0_5) := (blk_cell BK218.out 5).trans rfl
      have hcz11_6 : w3.cell? ⟨gb218, 6, none⟩ = some (.int .i64 a0_6) := (blk_cell BK218.out 6).trans rfl
      have hcz11_7 : w3.cell? ⟨gb218, 7, none⟩ = some (.string a0_7) := (blk_cell BK218.out 7).trans rfl
      have hfz11_0 := blk_frozen BK218.out 0
      have hfz11_1 := blk_frozen BK218.out 1
      have hfz11_2 := blk_frozen BK218.out 2
      have hfz11_3 := blk_frozen BK218.out 3
      have hfz11_4 := blk_frozen BK218.out 4
      have hfz11_5 := blk_frozen BK218.out 5
      have hfz11_6 := blk_frozen BK218.out 6
      have hfz11_7 := blk_frozen BK218.out 7
      go_wp2
      go_meet
      case rel => exact ⟨_, (true), (by first | rfl | (simp; done) | (simp [*]; done)), H', ⟨by first | omega | exact Nat.le_refl _⟩, ⟨by (with_reducible repeat (first | refine blk_drewN ?_ _ | refine blk_drew ?_ | refine blk_alloc ?_ _)); exact BK218.out⟩, ⟨by repeat (first | (with_reducible first | exact HB.out | apply below_alloc | apply pw_below_drewN | apply below_drew1 | refine below_set ?_ GE218.out) | exact HB.out)⟩⟩
     ·rw [if_neg c10] at H
      have c10b0 : decide (99 < a0_2) = false := decide_eq_false c10
      clear c10
      have H' := Aside0.mk H
      clear H
      have hcz12_0 : w3.cell? ⟨gb218, 0, none⟩ = some (.int .i64 a0_0) := (blk_cell BK218.out 0).trans rfl
      have hcz12_1 : w3.cell? ⟨gb218, 1, none⟩ = some (.int .i64 a0_1) := (blk_cell BK218.out 1).trans rfl
      have hcz12_2 : w3.cell? ⟨gb218, 2, none⟩ = some (.int .i64 a0_2) := (blk_cell BK218.out 2).trans rfl
      have hcz12_3 : w3.cell? ⟨gb218, 3, none⟩ = some (.int .i64 a0_3) := (blk_cell BK218.out 3).trans rfl
      have hcz12_4 : w3.cell? ⟨gb218, 4, none⟩ = some (.int .i64 a0_4) := (blk_cell BK218.out 4).trans rfl
      have hcz12_5 : w3.cell? ⟨gb218, 5, none⟩ = some (.int .i64 a0_5) := (blk_cell BK218.out 5).trans rfl
      have hcz12_6 : w3.cell? ⟨gb218, 6, none⟩ = some (.int .i64 a0_6) := (blk_cell BK218.out 6).trans rfl
      have hcz12_7 : w3.cell? ⟨gb218, 7, none⟩ = some (.string a0_7) := (blk_cell BK218.out 7).trans rfl
      have hfz12_0 := blk_frozen BK218.out 0
      have hfz12_1 := blk_frozen BK218.out 1
      have hfz12_2 := blk_frozen BK218.out 2
      have hfz12_3 := blk_frozen BK218.out 3
      have hfz12_4 := blk_frozen BK218.out 4
      have hfz12_5 := blk_frozen BK218.out 5
      have hfz12_6 := blk_frozen BK218.out 6
      have hfz12_7 := blk_frozen BK218.out 7
      go_wp2
      go_meet
      case rel => exact ⟨_, ((a0_0 == a0_2)), (by first | rfl | (simp; done) | (simp [*]; done)), H', ⟨by first | omega | exact Nat.le_refl _⟩, ⟨by (with_reducible repeat (first | refine blk_drewN ?_ _ | refine blk_drew ?_ | refine blk_alloc ?_ _)); exact BK218.out⟩, ⟨by repeat (first | (with_reducible first | exact HB.out | apply below_alloc | apply pw_below_drewN | apply below_drew1 | refine below_set ?_ GE218.out) | exact HB.out)⟩⟩
 case rest =>
  clear HC2
  try clear c1
  try clear p2
  try clear c4
  try clear c4b0
  try clear c6
  try clear c6b0
  try clear c8
  try clear c8b0
  try clear c10
  try clear c10b0
  try clear c11
  try clear hcz11_0
  try clear hcz11_1
  try clear hcz11_2
  try clear hcz11_3
  try clear hcz11_4
  try clear hcz11_5
  try clear hcz11_6
  try clear hcz11_7
  try clear hcz12_0
  try clear hcz12_1
  try clear hcz12_2
  try clear hcz12_3
  try clear hcz12_4
  try clear hcz12_5
  try clear hcz12_6
  try clear hcz12_7
  try clear hcz5_0
  try clear hcz5_1
  try clear hcz5_2
  try clear hcz5_3
  try clear hcz5_4
  try clear hcz5_5
  try clear hcz5_6
  try clear hcz5_7
  try clear hcz7_0
  try clear hcz7_1
  try clear hcz7_2
  try clear hcz7_3
  try clear hcz7_4
  try clear hcz7_5
  try clear hcz7_6
  try clear hcz7_7
  try clear hcz9_0
  try clear hcz9_1
  try clear hcz9_2
  try clear hcz9_3
  try clear hcz9_4
  try clear hcz9_5
  try clear hcz9_6
  try clear hcz9_7
  try clear hfz11_0
  try clear hfz11_1
  try clear hfz11_2
  try clear hfz11_3
  try clear hfz11_4
  try clear hfz11_5
  try clear hfz11_6
  try clear hfz11_7
  try clear hfz12_0
  try clear hfz12_1
  try clear hfz12_2
  try clear hfz12_3
  try clear hfz12_4
  try clear hfz12_5
  try clear hfz12_6
  try clear hfz12_7
  try clear hfz5_0
  try clear hfz5_1
  try clear hfz5_2
  try clear hfz5_3
  try clear hfz5_4
  try clear hfz5_5
  try clear hfz5_6
  try clear hfz5_7
  try clear hfz7_0
  try clear hfz7_1
  try clear hfz7_2
  try clear hfz7_3
  try clear hfz7_4
  try clear hfz7_5
  try clear hfz7_6
  try clear hfz7_7
  try clear hfz9_0
  try clear hfz9_1
  try clear hfz9_2
  try clear hfz9_3
  try clear hfz9_4
  try clear hfz9_5
  try clear hfz9_6
  try clear hfz9_7
  obtain ⟨kq, x27_1, rfl, HA, HJ1, BK218, HB⟩ := hcut
  cases kq with
  | zero => exact absurd HA.out (by simp [haywainref22_Fair.j0])
  | succ kj1 =>
   have H := HA.out
   clear HA
   simp only [haywainref22_Fair.j0] at H
   by_cases c13 : x27_1 = true
   ·subst c13
    have H1 : (some false) = some r := by rw [if_pos rfl] at H; exact H
    clear H
    have H := H1
    clear H1
    obtain rfl := Option.some.inj H
    go_wp2
    go_ret
    exact ⟨by first | rfl | (simp [errW_none, errW_some] <;> rfl) | (simp [*, errW_none, errW_some] <;> rfl), by repeat (first | (with_reducible first | exact HB.out | apply below_alloc | apply pw_below_drewN | apply below_drew1 | refine below_set ?_ GE218.out) | exact HB.out)⟩
   ·replace c13 := Bool.eq_false_iff.mpr c13
    subst c13
    have H1 : (if a0_1 < 1 then (some false) else (if a0_1 > 1099511627776 then (some false) else (if a0_3 < 0 then (some false) else (if a0_3 > 1099511627776 then (some false) else (if a0_4 < 0 then (some false) else (if a0_4 > 2 then (some false) else (if a0_5 ≥ 0 then (if a0_5 ≤ 1099511627776 then (if a0_6 ≥ 0 then (if a0_6 ≤ 1099511627776 then (some (decide ((a0_7.size : Int) ≤ 4000))) else (some false)) else (some false)) else (some false)) else (some false)))))))) = some r := by rw [if_neg (show ¬ (false = true) by decide)] at H; exact H
    clear H
    have H := H1
    clear H1
    by_cases c14 : a0_1 < 1
    ·rw [if_pos c14] at H
     have c14b0 : decide (a0_1 < 1) = true := decide_eq_true c14
     clear c14
     obtain rfl := Option.some.inj H
     have hcz15_0 : wc.cell? ⟨gb218, 0, none⟩ = some (.int .i64 a0_0) := (blk_cell BK218.out 0).trans rfl
     have hcz15_1 : wc.cell? ⟨gb218, 1, none⟩ = some (.int .i64 a0_1) := (blk_cell BK218.out 1).trans rfl
     have hcz15_2 : wc.cell? ⟨gb218, 2, none⟩ = some (.int .i64 a0_2) := (blk_cell BK218.out 2).trans rfl
     have hcz15_3 : wc.cell? ⟨gb218, 3, none⟩ = some (.int .i64 a0_3) := (blk_cell BK218.out 3).trans rfl
     have hcz15_4 : wc.cell? ⟨gb218, 4, none⟩ = some (.int .i64 a0_4) := (blk_cell BK218.out 4).trans rfl
     have hcz15_5 : wc.cell? ⟨gb218, 5, none⟩ = some (.int .i64 a0_5) := (blk_cell BK218.out 5).trans rfl
     have hcz15_6 : wc.cell? ⟨gb218, 6, none⟩ = some (.int .i64 a0_6) := (blk_cell BK218.out 6).trans rfl
     have hcz15_7 : wc.cell? ⟨gb218, 7, none⟩ = some (.string a0_7) := (blk_cell BK218.out 7).trans rfl
     have hfz15_0 := blk_frozen BK218.out 0
     have hfz15_1 := blk_frozen BK218.out 1
     have hfz15_2 := blk_frozen BK218.out 2
     have hfz15_3 := blk_frozen BK218.out 3
     have hfz15_4 := blk_frozen BK218.out 4
     have hfz15_5 := blk_frozen BK218.out 5
     have hfz15_6 := blk_frozen BK218.out 6
     have hfz15_7 := blk_frozen BK218.out 7
     go_wp2
     go_ret
     exact ⟨by first | rfl | (simp [errW_none, errW_some] <;> rfl) | (simp [*, errW_none, errW_some] <;> rfl), by repeat (first | (with_reducible first | exact HB.out | apply below_alloc | apply pw_below_drewN | apply below_drew1 | refine below_set ?_ GE218.out) | exact HB.out)⟩
    ·rw [if_neg c14] at H
     have c14b0 : decide (a0_1 < 1) = false := decide_eq_false c14
     clear c14
     by_cases c16 : a0_1 > 1099511627776
     ·rw [if_pos c16] at H
      have c16b0 : decide (1099511627776 < a0_1) = true := decide_eq_true c16
      clear c16
      obtain rfl := Option.some.inj H
      have hcz17_0 : wc.cell? ⟨gb218, 0, none⟩ = some (.int .i64 a0_0) := (blk_cell BK218.out 0).trans rfl
      have hcz17_1 : wc.cell? ⟨gb218, 1, none⟩ = some (.int .i64 a0_1) := (blk_cell BK218.out 1).trans rfl
      have hcz17_2 : wc.cell? ⟨gb218, 2, none⟩ = some (.int .i64 a0_2) := (blk_cell BK218.out 2).trans rfl
      have hcz17_3 : wc.cell? ⟨gb218, 3, none⟩ = some (.int .i64 a0_3) := (blk_cell BK218.out 3).trans rfl
      have hcz17_4 : wc.cell? ⟨gb218, 4, none⟩ = some (.int .i64 a0_4) := (blk_cell BK218.out 4).trans rfl
      have hcz17_5 : wc.cell? ⟨gb218, 5, none⟩ = some (.int .i64 a0_5) := (blk_cell BK218.out 5).trans rfl
      have hcz17_6 : wc.cell? ⟨gb218, 6, none⟩ = some (.int .i64 a0_6) := (blk_cell BK218.out 6).trans rfl
      have hcz17_7 : wc.cell? ⟨gb218, 7, none⟩ = some (.string a0_7) := (blk_cell BK218.out 7).trans rfl
      have hfz17_0 := blk_frozen BK218.out 0
      have hfz17_1 := blk_frozen BK218.out 1
      have hfz17_2 := blk_frozen BK218.out 2
      have hfz17_3 := blk_frozen BK218.out 3
      have hfz17_4 := blk_frozen BK218.out 4
      have hfz17_5 := blk_frozen BK218.out 5
      have hfz17_6 := blk_frozen BK218.out 6
      have hfz17_7 := blk_frozen BK218.out 7
      go_wp2
      go_ret
      exact ⟨by first | rfl | (simp [errW_none, errW_some] <;> rfl) | (simp [*, errW_none, errW_some] <;> rfl), by repeat (first | (with_reducible first | exact HB.out | apply below_alloc | apply pw_below_drewN | apply below_drew1 | refine below_set ?_ GE218.out) | exact HB.out)⟩
     ·rw [if_neg c16] at H
      have c16b0 : decide (1099511627776 < a0_1) = false := decide_eq_false c16
      clear c16
      by_cases c18 : a0_3 < 0
      ·rw [if_pos c18] at H
       have c18b0 : decide (a0_3 < 0) = true := decide_eq_true c18
       clear c18
       obtain rfl := Option.some.inj H
       have hcz19_0 : wc.cell? ⟨gb218, 0, none⟩ = some (.int .i64 a0_0) := (blk_cell BK218.out 0).trans rfl
       have hcz19_1 : wc.cell? ⟨gb218, 1, none⟩ = some (.int .i64 a0_1) := (blk_cell BK218.out 1).trans rfl
       have hcz19_2 : wc.cell? ⟨gb218, 2, none⟩ = some (.int .i64 a0_2) := (blk_cell BK218.out 2).trans rfl
       have hcz19_3 : wc.cell? ⟨gb218, 3, none⟩ = some (.int .i64 a0_3) := (blk_cell BK218.out 3).trans rfl
       have hcz19_4 : wc.cell? ⟨gb218, 4, none⟩ = some (.int .i64 a0_4) := (blk_cell BK218.out 4).trans rfl
       have hcz19_5 : wc.cell? ⟨gb218, 5, none⟩ = some (.int .i64 a0_5) := (blk_cell BK218.out 5).trans rfl
       have hcz19_6 : wc.cell? ⟨gb218, 6, none⟩ = some (.int .i64 a0_6) := (blk_cell BK218.out 6).trans rfl
       have hcz19_7 : wc.cell? ⟨gb218, 7, none⟩ = some (.string a0_7) := (blk_cell BK218.out 7).trans rfl
       have hfz19_0 := blk_frozen BK218.out 0
       have hfz19_1 := blk_frozen BK218.out 1
       have hfz19_2 := blk_frozen BK218.out 2
       have hfz19_3 := blk_frozen BK218.out 3
       have hfz19_4 := blk_frozen BK218.out 4
       have hfz19_5 := blk_frozen BK218.out 5
       have hfz19_6 := blk_frozen BK218.out 6
       have hfz19_7 := blk_frozen BK218.out 7
       go_wp2
       go_ret
       exact ⟨by first | rfl | (simp [errW_none, errW_some] <;> rfl) | (simp [*, errW_none, errW_some] <;> rfl), by repeat (first | (with_reducible first | exact HB.out | apply below_alloc | apply pw_below_drewN | apply below_drew1 | refine below_set ?_ GE218.out) | exact HB.out)⟩
      ·rw [if_neg c18] at H
       have c18b0 : decide (a0_3 < 0) = false := decide_eq_false c18
       clear c18
       by_cases c20 : a0_3 > 1099511627776
       ·rw [if_pos c20] at H
        have c20b0 : decide (1099511627776 < a0_3) = true := decide_eq_true c20
        clear c20
        obtain rfl := Option.some.inj H
        have hcz21_0 : wc.cell? ⟨gb218, 0, none⟩ = some (.int .i64 a0_0) := (blk_cell BK218.out 0).trans rfl
        have hcz21_1 : wc.cell? ⟨gb218, 1, none⟩ = some (.int .i64 a0_1) := (blk_cell BK218.out 1).trans rfl
        have hcz21_2 : wc.cell? ⟨gb218, 2, none⟩ = some (.int .i64 a0_2) := (blk_cell BK218.out 2).trans rfl
        have hcz21_3 : wc.cell? ⟨gb218, 3, none⟩ = some (.int .i64 a0_3) := (blk_cell BK218.out 3).trans rfl
        have hcz21_4 : wc.cell? ⟨gb218, 4, none⟩ = some (.int .i64 a0_4) := (blk_cell BK218.out 4).trans rfl
        have hcz21_5 : wc.cell? ⟨gb218, 5, none⟩ = some (.int .i64 a0_5) := (blk_cell BK218.out 5).trans rfl
        have hcz21_6 : wc.cell? ⟨gb218, 6, none⟩ = some (.int .i64 a0_6) := (blk_cell BK218.out 6).trans rfl
        have hcz21_7 : wc.cell? ⟨gb218, 7, none⟩ = some (.string a0_7) := (blk_cell BK218.out 7).trans rfl
        have hfz21_0 := blk_frozen BK218.out 0
        have hfz21_1 := blk_frozen BK218.out 1
        have hfz21_2 := blk_frozen BK218.out 2
        have hfz21_3 := blk_frozen BK218.out 3
        have hfz21_4 := blk_frozen BK218.out 4
        have hfz21_5 := blk_frozen BK218.out 5
        have hfz21_6 := blk_frozen BK218.out 6
        have hfz21_7 := blk_frozen BK218.out 7
        go_wp2
        go_ret
        exact ⟨by first | rfl | (simp [errW_none, errW_some] <;> rfl) | (simp [*, errW_none, errW_some] <;> rfl), by repeat (first | (with_reducible first | exact HB.out | apply below_alloc | apply pw_below_drewN | apply below_drew1 | refine below_set ?_ GE218.out) | exact HB.out)⟩
       ·rw [if_neg c20] at H
        have c20b0 : decide (1099511627776 < a0_3) = false := decide_eq_false c20
        clear c20
        by_cases c22 : a0_4 < 0
        ·rw [if_pos c22] at H
         have c22b0 : decide (a0_4 < 0) = true := decide_eq_true c22
         clear c22
         obtain rfl := Option.some.inj H
         have hcz23_0 : wc.cell? ⟨gb218, 0, none⟩ = some (.int .i64 a0_0) := (blk_cell BK218.out 0).trans rfl
         have hcz23_1 : wc.cell? ⟨gb218, 1, none⟩ = some (.int .i64 a0_1) := (blk_cell BK218.out 1).trans rfl
         have hcz23_2 : wc.cell? ⟨gb218, 2, none⟩ = some (.int .i64 a0_2) := (blk_cell BK218.out 2).trans rfl
         have hcz23_3 : wc.cell? ⟨gb218, 3, none⟩ = some (.int .i64 a0_3) := (blk_cell BK218.out 3).trans rfl
         have hcz23_4 : wc.cell? ⟨gb218, 4, none⟩ = some (.int .i64 a0_4) := (blk_cell BK218.out 4).trans rfl
         have hcz23_5 : wc.cell? ⟨gb218, 5, none⟩ = some (.int .i64 a0_5) := (blk_cell BK218.out 5).trans rfl
         have hcz23_6 : wc.cell? ⟨gb218, 6, none⟩ = some (.int .i64 a0_6) := (blk_cell BK218.out 6).trans rfl
         have hcz23_7 : wc.cell? ⟨gb218, 7, none⟩ = some (.string a0_7) := (blk_cell BK218.out 7).trans rfl
         have hfz23_0 := blk_frozen BK218.out 0
         have hfz23_1 := blk_frozen BK218.out 1
         have hfz23_2 := blk_frozen BK218.out 2
         have hfz23_3 := blk_frozen BK218.out 3
         have hfz23_4 := blk_frozen BK218.out 4
         have hfz23_5 := blk_frozen BK218.out 5
         have hfz23_6 := blk_frozen BK218.out 6
         have hfz23_7 := blk_frozen BK218.out 7
         go_wp2
         go_ret
         exact ⟨by first | rfl | (simp [errW_none, errW_some] <;> rfl) | (simp [*, errW_none, errW_some] <;> rfl), by repeat (first | (with_reducible first | exact HB.out | apply below_alloc | apply pw_below_drewN | apply below_drew1 | refine below_set ?_ GE218.out) | exact HB.out)⟩
        ·rw [if_neg c22] at H
         have c22b0 : decide (a0_4 < 0) = false := decide_eq_false c22
         clear c22
         by_cases c24 : a0_4 > 2
         ·rw [if_pos c24] at H
          have c24b0 : decide (2 < a0_4) = true := decide_eq_true c24
          clear c24
          obtain rfl := Option.some.inj H
          have hcz25_0 : wc.cell? ⟨gb218, 0, none⟩ = some (.int .i64 a0_0) := (blk_cell BK218.out 0).trans rfl
          have hcz25_1 : wc.cell? ⟨gb218, 1, none⟩ = some (.int .i64 a0_1) := (blk_cell BK218.out 1).trans rfl
          have hcz25_2 : wc.cell? ⟨gb218, 2, none⟩ = some (.int .i64 a0_2) := (blk_cell BK218.out 2).trans rfl
          have hcz25_3 : wc.cell? ⟨gb218, 3, none⟩ = some (.int .i64 a0_3) := (blk_cell BK218.out 3).trans rfl
          have hcz25_4 : wc.cell? ⟨gb218, 4, none⟩ = some (.int .i64 a0_4) := (blk_cell BK218.out 4).trans rfl
          have hcz25_5 : wc.cell? ⟨gb218, 5, none⟩ = some (.int .i64 a0_5) := (blk_cell BK218.out 5).trans rfl
          have hcz25_6 : wc.cell? ⟨gb218, 6, none⟩ = some (.int .i64 a0_6) := (blk_cell BK218.out 6).trans rfl
          have hcz25_7 : wc.cell? ⟨gb218, 7, none⟩ = some (.string a0_7) := (blk_cell BK218.out 7).trans rfl
          have hfz25_0 := blk_frozen BK218.out 0
          have hfz25_1 := blk_frozen BK218.out 1
          have hfz25_2 := blk_frozen BK218.out 2
          have hfz25_3 := blk_frozen BK218.out 3
          have hfz25_4 := blk_frozen BK218.out 4
          have hfz25_5 := blk_frozen BK218.out 5
          have hfz25_6 := blk_frozen BK218.out 6
          have hfz25_7 := blk_frozen BK218.out 7
          go_wp2
          go_ret
          exact ⟨by first | rfl | (simp [errW_none, errW_some] <;> rfl) | (simp [*, errW_none, errW_some] <;> rfl), by repeat (first | (with_reducible first | exact HB.out | apply below_alloc | apply pw_below_drewN | apply below_drew1 | refine below_set ?_ GE218.out) | exact HB.out)⟩
         ·rw [if_neg c24] at H
          have c24b0 : decide (2 < a0_4) = false := decide_eq_false c24
          clear c24
          by_cases c26 : a0_5 ≥ 0
          ·rw [if_pos c26] at H
           have c26b0 : decide (0 ≤ a0_5) = true := decide_eq_true c26
           clear c26
           by_cases c27 : a0_5 ≤ 1099511627776
           ·rw [if_pos c27] at H
            have c27b0 : decide (a0_5 ≤ 1099511627776) = true := decide_eq_true c27
            clear c27
            by_cases c28 : a0_6 ≥ 0
            ·rw [if_pos c28] at H
             have c28b0 : decide (0 ≤ a0_6) = true := decide_eq_true c28
             clear c28
             by_cases c29 : a0_6 ≤ 1099511627776
             ·rw [if_pos c29] at H
              have c29b0 : decide (a0_6 ≤ 1099511627776) = true := decide_eq_true c29
              clear c29
              obtain rfl := Option.some.inj H
              have hcz30_0 : wc.cell? ⟨gb218, 0, none⟩ = some (.int .i64 a0_0) := (blk_cell BK218.out 0).trans rfl
              have hcz30_1 : wc.cell? ⟨gb218, 1, none⟩ = some (.int .i64 a0_1) := (blk_cell BK218.out 1).trans rfl
              have hcz30_2 : wc.cell? ⟨gb218, 2, none⟩ = some (.int .i64 a0_2) := (blk_cell BK218.out 2).trans rfl
              have hcz30_3 : wc.cell? ⟨gb218, 3, none⟩ = some (.int .i64 a0_3) := (blk_cell BK218.out 3).trans rfl
              have hcz30_4 : wc.cell? ⟨gb218, 4, none⟩ = some (.int .i64 a0_4) := (blk_cell BK218.out 4).trans rfl
              have hcz30_5 : wc.cell? ⟨gb218, 5, none⟩ = some (.int .i64 a0_5) := (blk_cell BK218.out 5).trans rfl
              have hcz30_6 : wc.cell? ⟨gb218, 6, none⟩ = some (.int .i64 a0_6) := (blk_cell BK218.out 6).trans rfl
              have hcz30_7 : wc.cell? ⟨gb218, 7, none⟩ = some (.string a0_7) := (blk_cell BK218.out 7).trans rfl
              have hfz30_0 := blk_frozen BK218.out 0
              have hfz30_1 := blk_frozen BK218.out 1
              have hfz30_2 := blk_frozen BK218.out 2
              have hfz30_3 := blk_frozen BK218.out 3
              have hfz30_4 := blk_frozen BK218.out 4
              have hfz30_5 := blk_frozen BK218.out 5
              have hfz30_6 := blk_frozen BK218.out 6
              have hfz30_7 := blk_frozen BK218.out 7
              go_wp2
              go_ret
              exact ⟨by first | rfl | (simp [errW_none, errW_some] <;> rfl) | (simp [*, errW_none, errW_some] <;> rfl), by repeat (first | (with_reducible first | exact HB.out | apply below_alloc | apply pw_below_drewN | apply below_drew1 | refine below_set ?_ GE218.out) | exact HB.out)⟩
             ·rw [if_neg c29] at H
              have c29b0 : decide (a0_6 ≤ 1099511627776) = false := decide_eq_false c29
              clear c29
              obtain rfl := Option.some.inj H
              have hcz31_0 : wc.cell? ⟨gb218, 0, none⟩ = some (.int .i64 a0_0) := (blk_cell BK218.out 0).trans rfl
              have hcz31_1 : wc.cell? ⟨gb218, 1, none⟩ = some (.int .i64 a0_1) := (blk_cell BK218.out 1).trans rfl
              have hcz31_2 : wc.cell? ⟨gb218, 2, none⟩ = some (.int .i64 a0_2) := (blk_cell BK218.out 2).trans rfl
              have hcz31_3 : wc.cell? ⟨gb218, 3, none⟩ = some (.int .i64 a0_3) := (blk_cell BK218.out 3).trans rfl
              have hcz31_4 : wc.cell? ⟨gb218, 4, none⟩ = some (.int .i64 a0_4) := (blk_cell BK218.out 4).trans rfl
              have hcz31_5 : wc.cell? ⟨gb218, 5, none⟩ = some (.int .i64 a0_5) := (blk_cell BK218.out 5).trans rfl
              have hcz31_6 : wc.cell? ⟨gb218, 6, none⟩ = some (.int .i64 a0_6) := (blk_cell BK218.out 6).trans rfl
              have hcz31_7 : wc.cell? ⟨gb218, 7, none⟩ = some (.string a0_7) := (blk_cell BK218.out 7).trans rfl
              have hfz31_0 := blk_frozen BK218.out 0
              have hfz31_1 := blk_frozen BK218.out 1
              have hfz31_2 := blk_frozen BK218.out 2
              have hfz31_3 := blk_frozen BK218.out 3
              have hfz31_4 := blk_frozen BK218.out 4
              have hfz31_5 := blk_frozen BK218.out 5
              have hfz31_6 := blk_frozen BK218.out 6
              have hfz31_7 := blk_frozen BK218.out 7
              go_wp2
              go_ret
              exact ⟨by first | rfl | (simp [errW_none, errW_some] <;> rfl) | (simp [*, errW_none, errW_some] <;> rfl), by repeat (first | (with_reducible first | exact HB.out | apply below_alloc | apply pw_below_drewN | apply below_drew1 | refine below_set ?_ GE218.out) | exact HB.out)⟩
            ·rw [if_neg c28] at H
             have c28b0 : decide (0 ≤ a0_6) = false := decide_eq_false c28
             clear c28
             obtain rfl := Option.some.inj H
             have hcz32_0 : wc.cell? ⟨gb218, 0, none⟩ = some (.int .i64 a0_0) := (blk_cell BK218.out 0).trans rfl
             have hcz32_1 : wc.cell? ⟨gb218, 1, none⟩ = some (.int .i64 a0_1) := (blk_cell BK218.out 1).trans rfl
             have hcz32_2 : wc.cell? ⟨gb218, 2, none⟩ = some (.int .i64 a0_2) := (blk_cell BK218.out 2).trans rfl
             have hcz32_3 : wc.cell? ⟨gb218, 3, none⟩ = some (.int .i64 a0_3) := (blk_cell BK218.out 3).trans rfl
             have hcz32_4 : wc.cell? ⟨gb218, 4, none⟩ = some (.int .i64 a0_4) := (blk_cell BK218.out 4).trans rfl
             have hcz32_5 : wc.cell? ⟨gb218, 5, none⟩ = some (.int .i64 a0_5) := (blk_cell BK218.out 5).trans rfl
             have hcz32_6 : wc.cell? ⟨gb218, 6, none⟩ = some (.int .i64 a0_6) := (blk_cell BK218.out 6).trans rfl
             have hcz32_7 : wc.cell? ⟨gb218, 7, none⟩ = some (.string a0_7) := (blk_cell BK218.out 7).trans rfl
             have hfz32_0 := blk_frozen BK218.out 0
             have hfz32_1 := blk_frozen BK218.out 1
             have hfz32_2 := blk_frozen BK218.out 2
             have hfz32_3 := blk_frozen BK218.out 3
             have hfz32_4 := blk_frozen BK218.out 4
             have hfz32_5 := blk_frozen BK218.out 5
             have hfz32_6 := blk_frozen BK218.out 6
             have hfz32_7 := blk_frozen BK218.out 7
             go_wp2
             go_ret
             exact ⟨by first | rfl | (simp [errW_none, errW_some] <;> rfl) | (simp [*, errW_none, errW_some] <;> rfl), by repeat (first | (with_reducible first | exact HB.out | apply below_alloc | apply pw_below_drewN | apply below_drew1 | refine below_set ?_ GE218.out) | exact HB.out)⟩
           ·rw [if_neg c27] at H
            have c27b0 : decide (a0_5 ≤ 1099511627776) = false := decide_eq_false c27
            clear c27
            obtain rfl := Option.some.inj H
            have hcz33_0 : wc.cell? ⟨gb218, 0, none⟩ = some (.int .i64 a0_0) := (blk_cell BK218.out 0).trans rfl
            have hcz33_1 : wc.cell? ⟨gb218, 1, none⟩ = some (.int .i64 a0_1) := (blk_cell BK218.out 1).trans rfl
            have hcz33_2 : wc.cell? ⟨gb218, 2, none⟩ = some (.int .i64 a0_2) := (blk_cell BK218.out 2).trans rfl
            have hcz33_3 : wc.cell? ⟨gb218, 3, none⟩ = some (.int .i64 a0_3) := (blk_cell BK218.out 3).trans rfl
            have hcz33_4 : wc.cell? ⟨gb218, 4, none⟩ = some (.int .i64 a0_4) := (blk_cell BK218.out 4).trans rfl
            have hcz33_5 : wc.cell? ⟨gb218, 5, none⟩ = some (.int .i64 a0_5) := (blk_cell BK218.out 5).trans rfl
            have hcz33_6 : wc.cell? ⟨gb218, 6, none⟩ = some (.int .i64 a0_6) := (blk_cell BK218.out 6).trans rfl
            have hcz33_7 : wc.cell? ⟨gb218, 7, none⟩ = some (.string a0_7) := (blk_cell BK218.out 7).trans rfl
            have hfz33_0 := blk_frozen BK218.out 0
            have hfz33_1 := blk_frozen BK218.out 1
            have hfz33_2 := blk_frozen BK218.out 2
            have hfz33_3 := blk_frozen BK218.out 3
            have hfz33_4 := blk_frozen BK218.out 4
            have hfz33_5 := blk_frozen BK218.out 5
            have hfz33_6 := blk_frozen BK218.out 6
            have hfz33_7 := blk_frozen BK218.out 7
            go_wp2
            go_ret
            exact ⟨by first | rfl | (simp [errW_none, errW_some] <;> rfl) | (simp [*, errW_none, errW_some] <;> rfl), by repeat (first | (with_reducible first | exact HB.out | apply below_alloc | apply pw_below_drewN | apply below_drew1 | refine below_set ?_ GE218.out) | exact HB.out)⟩
          ·rw [if_neg c26] at H
           have c26b0 : decide (0 ≤ a0_5) = false := decide_eq_false c26
           clear c26
           obtain rfl := Option.some.inj H
           have hcz34_0 : wc.cell? ⟨gb218, 0, none⟩ = some (.int .i64 a0_0) := (blk_cell BK218.out 0).trans rfl
           have hcz34_1 : wc.cell? ⟨gb218, 1, none⟩ = some (.int .i64 a0_1) := (blk_cell BK218.out 1).trans rfl
           have hcz34_2 : wc.cell? ⟨gb218, 2, none⟩ = some (.int .i64 a0_2) := (blk_cell BK218.out 2).trans rfl
           have hcz34_3 : wc.cell? ⟨gb218, 3, none⟩ = some (.int .i64 a0_3) := (blk_cell BK218.out 3).trans rfl
           have hcz34_4 : wc.cell? ⟨gb218, 4, none⟩ = some (.int .i64 a0_4) := (blk_cell BK218.out 4).trans rfl
           have hcz34_5 : wc.cell? ⟨gb218, 5, none⟩ = some (.int .i64 a0_5) := (blk_cell BK218.out 5).trans rfl
           have hcz34_6 : wc.cell? ⟨gb218, 6, none⟩ = some (.int .i64 a0_6) := (blk_cell BK218.out 6).trans rfl
           have hcz34_7 : wc.cell? ⟨gb218, 7, none⟩ = some (.string a0_7) := (blk_cell BK218.out 7).trans rfl
           have hfz34_0 := blk_frozen BK218.out 0
           have hfz34_1 := blk_frozen BK218.out 1
           have hfz34_2 := blk_frozen BK218.out 2
           have hfz34_3 := blk_frozen BK218.out 3
           have hfz34_4 := blk_frozen BK218.out 4
           have hfz34_5 := blk_frozen BK218.out 5
           have hfz34_6 := blk_frozen BK218.out 6
           have hfz34_7 := blk_frozen BK218.out 7
           go_wp2
           go_ret
           exact ⟨by first | rfl | (simp [errW_none, errW_some] <;> rfl) | (simp [*, errW_none, errW_some] <;> rfl), by repeat (first | (with_reducible first | exact HB.out | apply below_alloc | apply pw_below_drewN | apply below_drew1 | refine below_set ?_ GE218.out) | exact HB.out)⟩

/-! ### haywainlaw22_As: function 12 -/
def haywainlaw22_As.l0 : Nat → List (S23) → List (S31) → Int → Option ((List (S31)))
 | 0, _, _, _ => none
 | k + 1, x0, x3, x4 => if x4 < (x0.length : Int) then (if 0 ≤ x4 then (if x3.length < 1954687338268 then (haywainlaw22_As.l0 k x0 (x3 ++ [(⟨(rd_T23 x0 x4).f0, (rd_T23 x0 x4).f1, (rd_T23 x0 x4).f2, (rd_T23 x0 x4).f3, (rd_T23 x0 x4).f4, (rd_T23 x0 x4).f5, (rd_T23 x0 x4).f6, (rd_T23 x0 x4).f7⟩ : S31)]) (wrap64 (x4 + 1))) else (none)) else (none)) else (some x3)
def haywainlaw22_As.f (k : Nat) (l0 : List (S23)) : Option ((List (S31))) := haywainlaw22_As.l0 k l0 ([] : List (S31)) 0
theorem haywainlaw22_As.mono_l : ∀ k, (∀ y0 y1 y2, LeO (haywainlaw22_As.l0 k y0 y1 y2) (haywainlaw22_As.l0 (k + 1) y0 y1 y2))
 | 0 => fun _ _ _ r h => by simp [haywainlaw22_As.l0] at h
 | k + 1 => by
  have ih0 := haywainlaw22_As.mono_l k
  ·intro y0 y1 y2
   unfold haywainlaw22_As.l0
   repeat' first
   | (with_reducible exact ih0 _ _ _)
   | (with_reducible exact LeO.refl _)
   | (with_reducible exact LeO.none _)
   | (with_reducible refine LeO.ite ?_ ?_)
   | (with_reducible refine LeO.bind ?_ (fun _ => ?_))
   | exact ih0 _ _ _
   | exact LeO.none _
   | refine LeO.ite ?_ ?_
   | refine LeO.bind ?_ (fun _ => ?_)
theorem haywainlaw22_As.mono : ∀ a0 k, LeO (haywainlaw22_As.f k a0) (haywainlaw22_As.f (k + 1) a0) := by
 intro a0 k
 have ih0 := haywainlaw22_As.mono_l k
 unfold haywainlaw22_As.f
 repeat' first
   | (with_reducible exact ih0 _ _ _)
   | (with_reducible exact LeO.refl _)
   | (with_reducible exact LeO.none _)
   | (with_reducible refine LeO.ite ?_ ?_)
   | (with_reducible refine LeO.bind ?_ (fun _ => ?_))
   | exact ih0 _ _ _
   | exact LeO.none _
   | refine LeO.ite ?_ ?_
   | refine LeO.bind ?_ (fun _ => ?_)
set_option maxHeartbeats 8000000 in
set_option maxRecDepth 100000 in
theorem haywainlaw22_As.calls (k : Nat) (A0 : Option Addr) (c0 : Nat) (l0 : List (S23)) (r : List (S31)) (w : World) (hr0 : Kd.C k23 w A0 l0.length l0) (hc0 : l0.length ≤ c0) (h : haywainlaw22_As.f k l0 = some r) :
  Calls Try.prog 12 #[.slice A0 l0.length c0] w fun e w' => ∃ v0_ : Value, e = .returned (v0_) ∧ Kd.R k31 31 w' w.heap.size (fun _ => True) v0_ r ∧ Below w.heap.size w w' := by
 have hu23 := Try.underlying23
 have hu31 := Try.underlying31
 have HR0 := Aside0.mk hr0
 have HC0 := Aside0.mk hc0
 clear hr0 hc0
 have HB := Aside0.mk (Below.refl w.heap.size w)
 have H : (haywainlaw22_As.l0 k l0 ([] : List (S31)) 0) = some r := h
 clear h
 have H' := Aside0.mk H
 clear H
 go_enter Try.func12, Try.ntmps12
 go_wp2
 go_loopg [3, 4] k (fun kq v3 v4 w' => ∃ (x3_1 : List (S31)) (x4_1 : Int), v4 = .int .i64 x4_1 ∧ Aside0 (haywainlaw22_As.l0 kq l0 x3_1 x4_1 = some r) ∧ Aside0 (kq ≤ k) ∧ Aside0 (Kd.R k31 31 w' w.heap.size (fun _ => True) v3 x3_1) ∧ Aside0 (Below w.heap.size w w'))
 case atStart => exact ⟨(([] : List (S31))), (0), (by first | rfl | (simp; done) | (simp [*]; done)), H', ⟨Nat.le_refl _⟩, ⟨by first | exact Kd.R_nil _ _ _ _ _ | exact Kd.N_nil _ _ _ _ _ | exact Kd.V_nil _ _ _ _ _ | exact Kd.Q_nil _ _ _ _ _ | exact Kd.S_nil _ _ _ _ _⟩, ⟨by repeat (first | (with_reducible first | exact HB.out | apply below_alloc | apply pw_below_drewN | apply below_drew1) | exact HB.out)⟩⟩
 case round =>
  clear H'
  try clear c1
  obtain ⟨x3_1, x4_1, rfl, HA, HK1, HO_3, HB⟩ := hrel
  cases gk with
  | zero => exact absurd HA.out (by simp [haywainlaw22_As.l0])
  | succ k1 =>
   have H := HA.out
   clear HA
   simp only [haywainlaw22_As.l0] at H
   by_cases c2 : x4_1 < (l0.length : Int)
   ·rw [if_pos c2] at H
    have c2b0 : decide (x4_1 < (l0.length : Int)) = true := decide_eq_true c2
    clear c2
    by_cases c3 : 0 ≤ x4_1
    ·rw [if_pos c3] at H
     have c3b0 : decide (0 ≤ x4_1) = true := decide_eq_true c3
     clear c3
     by_cases c4 : x3_1.length < 1954687338268
     ·rw [if_pos c4] at H
      have LMc4 := Aside0.mk c4
      clear c4
      obtain ⟨y221, hy221⟩ : ∃ y_ : List (S31), y_ = (x3_1 ++ [(⟨(rd_T23 l0 x4_1).f0, (rd_T23 l0 x4_1).f1, (rd_T23 l0 x4_1).f2, (rd_T23 l0 x4_1).f3, (rd_T23 l0 x4_1).f4, (rd_T23 l0 x4_1).f5, (rd_T23 l0 x4_1).f6, (rd_T23 l0 x4_1).f7⟩ : S31)]) := ⟨_, rfl⟩
      replace H : (haywainlaw22_As.l0 k1 l0 y221 (wrap64 (x4_1 + 1))) = some r := by first | (rw [hy221]; with_reducible exact H) | (have H2_ := (Option.bind_some _ _).symm.trans H; rw [hy221]; with_reducible exact H2_) | (have H2_ := (Option.bind_some _ _).symm.trans H; with_reducible exact H2_) | with_reducible exact H | (rw [hy221]; exact H) | exact H
      have Ny221 := Aside0.mk hy221
      clear hy221
      have H' := Aside0.mk H
      clear H
      have p219 : 0 ≤ (x4_1 : Int) := of_decide_eq_true (by first | (with_reducible assumption) | assumption)
      have q219 : x4_1 < (l0.length : Int) := of_decide_eq_true (by first | (with_reducible assumption) | assumption)
      obtain ⟨ad219, e219, hx219_0, hx219_1, hx219_2, hx219_3, hx219_4, hx219_5, hx219_6, hx219_7⟩ := at_T23 HR0.out x4_1 p219 q219
      cases e219
      replace hx219_0 := (HB.out.cell (World.block_lt_of_cell? w _ hx219_0)).trans hx219_0
      replace hx219_1 := (HB.out.cell (World.block_lt_of_cell? w _ hx219_1)).trans hx219_1
      replace hx219_2 := (HB.out.cell (World.block_lt_of_cell? w _ hx219_2)).trans hx219_2
      replace hx219_3 := (HB.out.cell (World.block_lt_of_cell? w _ hx219_3)).trans hx219_3
      replace hx219_4 := (HB.out.cell (World.block_lt_of_cell? w _ hx219_4)).trans hx219_4
      replace hx219_5 := (HB.out.cell (World.block_lt_of_cell? w _ hx219_5)).trans hx219_5
      replace hx219_6 := (HB.out.cell (World.block_lt_of_cell? w _ hx219_6)).trans hx219_6
      replace hx219_7 := (HB.out.cell (World.block_lt_of_cell? w _ hx219_7)).trans hx219_7
      replace p219 := eq_true p219
      replace q219 := eq_true q219
      go_wp2_with (first | ((with_reducible refine gate_dst (N := 5) rfl ?_); refine box_event ?hg (N := 5) ?hd (cs := #[.int .i64 0, .int .i64 0, .int .i64 0, .int .i64 0, .int .i64 0, .int .i64 0, .int .i64 0, .string (⟨#[]⟩ : ByteArray)]) (t := 23) ?hr ?_; (case hd => rfl); (case hg => rfl); (case hr => first | (go_simp; done) | (go_simp; rfl)); intro gb220 hg w5 hbox hb; have n0_ := Aside0.mk (Kd.R_below (by (with_reducible repeat (first | apply Kd.R_alloc | apply Kd.R_drewN | apply Kd.R_drew)); exact HO_3.out) hb); have n1_ := Aside0.mk (below_step (by repeat (first | (with_reducible first | exact HB.out | apply below_alloc | apply pw_below_drewN | apply below_drew1) | exact HB.out)) hb); have n2_ := Aside0.mk (hbox); have n3_ := Aside0.mk ((by rw [hg]; exact (below_size (by repeat (first | (with_reducible first | exact HB.out | apply below_alloc | apply pw_below_drewN | apply below_drew1) | exact HB.out))) : w.heap.size ≤ gb220)); have n4_ := Aside0.mk ((by rw [hg]; exact (below_size (by repeat (first | (with_reducible first | exact HB.out | apply below_alloc | apply pw_below_drewN | apply below_drew1) | exact HB.out))) : w.heap.size ≤ gb220)); clear HO_3; clear HB; have HO_3 := n0_; have HB := n1_; have BK220 := n2_; have GW220 := n3_; have GE220 := n4_; clear n0_ n1_ n2_ n3_ n4_; clear hb hbox hg; have hcz6_0 : w5.cell? ⟨gb220, 0, none⟩ = some (.int .i64 0) := (blk_cell BK220.out 0).trans rfl; have hcz6_1 : w5.cell? ⟨gb220, 1, none⟩ = some (.int .i64 0) := (blk_cell BK220.out 1).trans rfl; have hcz6_2 : w5.cell? ⟨gb220, 2, none⟩ = some (.int .i64 0) := (blk_cell BK220.out 2).trans rfl; have hcz6_3 : w5.cell? ⟨gb220, 3, none⟩ = some (.int .i64 0) := (blk_cell BK220.out 3).trans rfl; have hcz6_4 : w5.cell? ⟨gb220, 4, none⟩ = some (.int .i64 0) := (blk_cell BK220.out 4).trans rfl; have hcz6_5 : w5.cell? ⟨gb220, 5, none⟩ = some (.int .i64 0) := (blk_cell BK220.out 5).trans rfl; have hcz6_6 : w5.cell? ⟨gb220, 6, none⟩ = some (.int .i64 0) := (blk_cell BK220.out 6).trans rfl; have hcz6_7 : w5.cell? ⟨gb220, 7, none⟩ = some (.string (⟨#[]⟩ : ByteArray)) := (blk_cell BK220.out 7).trans rfl; have hfz6_0 := blk_frozen BK220.out 0; have hfz6_1 := blk_frozen BK220.out 1; have hfz6_2 := blk_frozen BK220.out 2; have hfz6_3 := blk_frozen BK220.out 3; have hfz6_4 := blk_frozen BK220.out 4; have hfz6_5 := blk_frozen BK220.out 5; have hfz6_6 := blk_frozen BK220.out 6; have hfz6_7 := blk_frozen BK220.out 7) | ((with_reducible refine gate_builtin (b := .append) (xs := #[.tmp 16, .tmp 34]) rfl ?_); at_builtin; refine Kd.R_append k31 (w0 := w) w.heap.size rfl (.tmp 16) (.tmp 34) 32 31 (.agg #[(.int .i64 0), (.int .i64 0), (.int .i64 0), (.int .i64 0), (.int .i64 0), (.int .i64 0), (.int .i64 0), (.string ⟨#[]⟩)]) 72 rfl Try.underlying32 info31 rfl (by decide) (by omega) u3 x3_1 (⟨(rd_T23 l0 x4_1).f0, (rd_T23 l0 x4_1).f1, (rd_T23 l0 x4_1).f2, (rd_T23 l0 x4_1).f3, (rd_T23 l0 x4_1).f4, (rd_T23 l0 x4_1).f5, (rd_T23 l0 x4_1).f6, (rd_T23 l0 x4_1).f7⟩ : S31) [.int .i64 ((rd_T23 l0 x4_1).f0), .int .i64 ((rd_T23 l0 x4_1).f1), .int .i64 ((rd_T23 l0 x4_1).f2), .int .i64 ((rd_T23 l0 x4_1).f3), .int .i64 ((rd_T23 l0 x4_1).f4), .int .i64 ((rd_T23 l0 x4_1).f5), .int .i64 ((rd_T23 l0 x4_1).f6), .string ((rd_T23 l0 x4_1).f7)] (fun _ => True) (fun _ => False) rfl (by first | (go_simp; done) | (go_simp; rfl)) ?aP (fun _ hk => hk.elim) ?aF ?aO ?aB ?aS ?aL ?_; (case aP => exact k31_mkM _ _ _ (⟨(rd_T23 l0 x4_1).f0, (rd_T23 l0 x4_1).f1, (rd_T23 l0 x4_1).f2, (rd_T23 l0 x4_1).f3, (rd_T23 l0 x4_1).f4, (rd_T23 l0 x4_1).f5, (rd_T23 l0 x4_1).f6, (rd_T23 l0 x4_1).f7⟩ : S31)); (case aB => exact (by repeat (first | (with_reducible first | exact HB.out | apply below_alloc | apply pw_below_drewN | apply below_drew1 | refine below_set ?_ GE220.out) | exact HB.out))); (case aF => exact (fun _ _ => trivial)); (case aO => exact (by (with_reducible repeat (first | apply Kd.R_alloc | apply Kd.R_drewN | apply Kd.R_drew)); exact Kd.R_mono (Kd.R_far (p := ⟨gb220, 7, none⟩) (Kd.R_far (p := ⟨gb220, 6, none⟩) (Kd.R_far (p := ⟨gb220, 5, none⟩) (Kd.R_far (p := ⟨gb220, 4, none⟩) (Kd.R_far (p := ⟨gb220, 3, none⟩) (Kd.R_far (p := ⟨gb220, 2, none⟩) (Kd.R_far (p := ⟨gb220, 1, none⟩) (Kd.R_far (p := ⟨gb220, 0, none⟩) (Kd.R_types HO_3.out BK220.out (by decide)) (fun _ hk => hk.2) (.int .i64 ((rd_T23 l0 x4_1).f0))) (fun _ hk => hk.2) (.int .i64 ((rd_T23 l0 x4_1).f1))) (fun _ hk => hk.2) (.int .i64 ((rd_T23 l0 x4_1).f2))) (fun _ hk => hk.2) (.int .i64 ((rd_T23 l0 x4_1).f3))) (fun _ hk => hk.2) (.int .i64 ((rd_T23 l0 x4_1).f4))) (fun _ hk => hk.2) (.int .i64 ((rd_T23 l0 x4_1).f5))) (fun _ hk => hk.2) (.int .i64 ((rd_T23 l0 x4_1).f6))) (fun _ hk => hk.2) (.string ((rd_T23 l0 x4_1).f7))) (fun _ hk => trivial))); (case aS => exact (below_size (by repeat (first | (with_reducible first | exact HB.out | apply below_alloc | apply pw_below_drewN | apply below_drew1 | refine below_set ?_ GE220.out) | exact HB.out)))); (case aL => have := LMc4.out; omega); intro v222 w7 ho hb hg hat; rw [← Ny221.out] at ho; have n0_ := Aside0.mk (blk_grown (g := gb220) (o := .cells #[.int .i64 ((rd_T23 l0 x4_1).f0), .int .i64 ((rd_T23 l0 x4_1).f1), .int .i64 ((rd_T23 l0 x4_1).f2), .int .i64 ((rd_T23 l0 x4_1).f3), .int .i64 ((rd_T23 l0 x4_1).f4), .int .i64 ((rd_T23 l0 x4_1).f5), .int .i64 ((rd_T23 l0 x4_1).f6), .string ((rd_T23 l0 x4_1).f7)] 23 (0, 0)) (by (with_reducible repeat (first | refine blk_drewN ?_ _ | refine blk_drew ?_ | refine blk_alloc ?_ _)); refine blk_put (cs := #[.int .i64 ((rd_T23 l0 x4_1).f0), .int .i64 ((rd_T23 l0 x4_1).f1), .int .i64 ((rd_T23 l0 x4_1).f2), .int .i64 ((rd_T23 l0 x4_1).f3), .int .i64 ((rd_T23 l0 x4_1).f4), .int .i64 ((rd_T23 l0 x4_1).f5), .int .i64 ((rd_T23 l0 x4_1).f6), .string (⟨#[]⟩ : ByteArray)]) ?_ 7 _ rfl; (with_reducible repeat (first | refine blk_drewN ?_ _ | refine blk_drew ?_ | refine blk_alloc ?_ _)); refine blk_put (cs := #[.int .i64 ((rd_T23 l0 x4_1).f0), .int .i64 ((rd_T23 l0 x4_1).f1), .int .i64 ((rd_T23 l0 x4_1).f2), .int .i64 ((rd_T23 l0 x4_1).f3), .int .i64 ((rd_T23 l0 x4_1).f4), .int .i64 ((rd_T23 l0 x4_1).f5), .int .i64 0, .string (⟨#[]⟩ : ByteArray)]) ?_ 6 _ rfl; (with_reducible repeat (first | refine blk_drewN ?_ _ | refine blk_drew ?_ | refine blk_alloc ?_ _)); refine blk_put (cs := #[.int .i64 ((rd_T23 l0 x4_1).f0), .int .i64 ((rd_T23 l0 x4_1).f1), .int .i64 ((rd_T23 l0 x4_1).f2), .int .i64 ((rd_T23 l0 x4_1).f3), .int .i64 ((rd_T23 l0 x4_1).f4), .int .i64 0, .int .i64 0, .string (⟨#[]⟩ : ByteArray)]) ?_ 5 _ rfl; (with_reducible repeat (first | refine blk_drewN ?_ _ | refine blk_drew ?_ | refine blk_alloc ?_ _)); refine blk_put (cs := #[.int .i64 ((rd_T23 l0 x4_1).f0), .int .i64 ((rd_T23 l0 x4_1).f1), .int .i64 ((rd_T23 l0 x4_1).f2), .int .i64 ((rd_T23 l0 x4_1).f3), .int .i64 0, .int .i64 0, .int .i64 0, .string (⟨#[]⟩ : ByteArray)]) ?_ 4 _ rfl; (with_reducible repeat (first | refine blk_drewN ?_ _ | refine blk_drew ?_ | refine blk_alloc ?_ _)); refine blk_put (cs := #[.int .i64 ((rd_T23 l0 x4_1).f0), .int .i64 ((rd_T23 l0 x4_1).f1), .int .i64 ((rd_T23 l0 x4_1).f2), .int .i64 0, .int .i64 0, .int .i64 0, .int .i64 0, .string (⟨#[]⟩ : ByteArray)]) ?_ 3 _ rfl; (with_reducible repeat (first | refine blk_drewN ?_ _ | refine blk_drew ?_ | refine blk_alloc ?_ _)); refine blk_put (cs := #[.int .i64 ((rd_T23 l0 x4_1).f0), .int .i64 ((rd_T23 l0 x4_1).f1), .int .i64 0, .int .i64 0, .int .i64 0, .int .i64 0, .int .i64 0, .string (⟨#[]⟩ : ByteArray)]) ?_ 2 _ rfl; (with_reducible repeat (first | refine blk_drewN ?_ _ | refine blk_drew ?_ | refine blk_alloc ?_ _)); refine blk_put (cs := #[.int .i64 ((rd_T23 l0 x4_1).f0), .int .i64 0, .int .i64 0, .int .i64 0, .int .i64 0, .int .i64 0, .int .i64 0, .string (⟨#[]⟩ : ByteArray)]) ?_ 1 _ rfl; (with_reducible repeat (first | refine blk_drewN ?_ _ | refine blk_drew ?_ | refine blk_alloc ?_ _)); refine blk_put (cs := #[.int .i64 0, .int .i64 0, .int .i64 0, .int .i64 0, .int .i64 0, .int .i64 0, .int .i64 0, .string (⟨#[]⟩ : ByteArray)]) ?_ 0 _ rfl; (with_reducible repeat (first | refine blk_drewN ?_ _ | refine blk_drew ?_ | refine blk_alloc ?_ _)); exact BK220.out) hg (Kd.R_ne HO_3.out BK220.out (by decide))); have n1_ := Aside0.mk (hb); have n2_ := Aside0.mk (ho); clear BK220; clear HB; clear HO_3; have BK220 := n0_; have HB := n1_; have HO223 := n2_; clear n0_ n1_ n2_; clear ho hb hg hat))
      go_roundg k1
      case measure => have := HK1.out; omega
      case rel => exact ⟨(y221), (wrap64 (x4_1 + 1)), (by first | rfl | (simp; done) | (simp [*]; done)), H', ⟨by have := HK1.out; omega⟩, ⟨by (with_reducible repeat (first | apply Kd.R_alloc | apply Kd.R_drewN | apply Kd.R_drew)); exact HO223.out⟩, ⟨by repeat (first | (with_reducible first | exact HB.out | apply below_alloc | apply pw_below_drewN | apply below_drew1 | refine below_set ?_ GE220.out) | exact HB.out)⟩⟩
     ·rw [if_neg c4] at H
      exact absurd H (by simp)
    ·rw [if_neg c3] at H
     exact absurd H (by simp)
   ·rw [if_neg c2] at H
    have c2b0 : decide (x4_1 < (l0.length : Int)) = false := decide_eq_false c2
    clear c2
    obtain rfl := Option.some.inj H
    go_wp2
    go_ret
    exact ⟨_, by first | rfl | (simp [errW_none, errW_some] <;> rfl) | (simp [*, errW_none, errW_some] <;> rfl), by (with_reducible repeat (first | apply Kd.R_alloc | apply Kd.R_drewN | apply Kd.R_drew)); exact HO_3.out, by repeat (first | (with_reducible first | exact HB.out | apply below_alloc | apply pw_below_drewN | apply below_drew1) | exact HB.out)⟩

end Go.Proofs.Ytodjglekfamaaaa.PNet
