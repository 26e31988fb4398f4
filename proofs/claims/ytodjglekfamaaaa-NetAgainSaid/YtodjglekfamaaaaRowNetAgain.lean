-- The row of the law NetAgain out of its pure statement and its contract. Written by a program of ours (wip/tools/ownrow.py), after the print's own rows.
import Derived.Test.YtodjglekfamaaaaRows
import Derived.Test.YtodjglekfamaaaaPNetx12
import Derived.Test.YtodjglekfamaaaaPureNetAgain
import Derived.Test.YtodjglekfamaaaaXOpen
import Derived.WalkKit
import Derived.ProofKit
import Derived.OpenShut
import Derived.ShutString
import Derived.ChangeOld
import Derived.Below
import Derived.SizedLaws
import Derived.WideShapes
namespace Go.Proofs.Ytodjglekfamaaaa.netAgain
open Go.ChangeShapes Go.WideShapes Go.ChangeAt Go.RowKit Go.Proofs.Ytodjglekfamaaaa.PNet Go.Proofs.Ytodjglekfamaaaa.Open Go.Proofs.YtodjglekfamaaaaW.PrintWords
open Go.ChangeMaps (open_string shut_string)
set_option linter.unusedVariables false
set_option linter.unusedSimpArgs false
theorem own : ownKnob Try.prog.godebug = none := by kernel_rfl
theorem laidOut : laidOutB Try.prog = true := by kernel_rfl
theorem opens_T23 : Opens Try.prog 23 k23 okT23_NetAgain := opens_iso (opens_struct Try.underlying23 (by kernel_rfl) (opensF_cons rfl (by kernel_rfl) (opens_int Try.underlying3) (opensF_cons rfl (by kernel_rfl) (opens_int Try.underlying3) (opensF_cons rfl (by kernel_rfl) (opens_int Try.underlying3) (opensF_cons rfl (by kernel_rfl) (opens_int Try.underlying3) (opensF_cons rfl (by kernel_rfl) (opens_int Try.underlying3) (opensF_cons rfl (by kernel_rfl) (opens_int Try.underlying3) (opensF_cons rfl (by kernel_rfl) (opens_int Try.underlying3) (opensF_one rfl (by kernel_rfl) (opens_string Try.underlying9)) rfl) rfl) rfl) rfl) rfl) rfl) rfl)) (fun a => ⟨a.1, a.2.1, a.2.2.1, a.2.2.2.1, a.2.2.2.2.1, a.2.2.2.2.2.1, a.2.2.2.2.2.2.1, a.2.2.2.2.2.2.2⟩) (fun a => rfl)
theorem opens_T26 : Opens Try.prog 26 k26 okT26_NetAgain := opens_iso (opens_struct Try.underlying26 (by kernel_rfl) (opensF_one rfl (by kernel_rfl) (opens_slice (B := 72) Try.underlying24 (by kernel_rfl) (by kernel_rfl) opens_T23))) (fun a => ⟨a⟩) (fun a => rfl)
set_option maxRecDepth 100000 in
theorem lifted (os : Os) (started : os.Started) (H : Type) (enc : TypeId × Value → H) :
  ReturnsInHanded {} Try.checked os 7 .any (Rows.netAgainSpec.pre6 enc Try.prog Try.f7 Rows.netAgainRow.domain false) (Rows.netAgainSpec.post enc Try.prog Try.f7 false true false false) := by
 refine returnsInHanded_of_change_sized (C := Try.checked) own started (by kernel_rfl) Try.func7
  (ChangeSpec.witness6 (enc := enc) (C := Try.checked) false ⟨#[], #[.agg #[.slice none 0 0], .int .i64 0, .agg #[.int .i64 0, .int .i64 0, .int .i64 0, .int .i64 0, .int .i64 0, .int .i64 0, .int .i64 0, .string ByteArray.empty]], []⟩ 8 (by kernel_rfl) (by kernel_rfl) (by kernel_rfl) (by kernel_rfl)) ?_
 intro W base args ds gs before hval0 hW hcnd hsz0 _
 have hsz : (DataW.weightsEach Try.prog (Try.f7.params.toList ++ Rows.netAgainSpec.plain.varTypes Try.prog) (ds ++ gs)).all (· ≤ reachBytes) = true := hsz0
 have hval : ∀ (j : Nat) t v, Try.f7.params[j]? = some t → args[j]? = some v → Value.okWide Try.prog W .any base t v := hval0
 have hW' := hW
 obtain ⟨p, q, hA0, hV, rfl, hfz, hnd⟩ := hW
 have hA : DataW.TrodAll enc Try.prog W 0 (fun _ => true) true Try.f7.params.toList args.toList ds p := hA0
 rw [Try.params7] at hA hval hsz
 obtain ⟨v0, vs0, d0, ds0, p0, q0, hargs, rfl, rfl, h0, r0⟩ := trodAll_cons hA
 obtain ⟨v1, vs1, d1, ds1, p1, q1, rfl, rfl, rfl, h1, r1⟩ := trodAll_cons r0
 obtain ⟨v2, vs2, d2, ds2, p2, q2, rfl, rfl, rfl, h2, r2⟩ := trodAll_cons r1
 obtain ⟨rfl, rfl, rfl⟩ := trodAll_nil r2
 obtain rfl : args = #[v0, v1, v2] := by cases args; simp_all
 obtain ⟨rfl, rfl⟩ := trodVars_none hV
 have k0 := h0
 have lt0 : ∀ x ∈ p0, x.block < W.heap.size := by obtain ⟨m, hm⟩ := k0; exact DataW.trod_lt m _ _ _ hm
 have z0 : ∀ n ∈ d0.weights Try.prog 26, n ≤ reachBytes := fun n hn => of_decide_eq_true (List.all_eq_true.1 hsz n (DataW.weights_mem_each (j := 0) rfl rfl n hn))
 obtain ⟨⟨cs0⟩, rfl, _⟩ := okWide_struct Try.underlying26 (hval 0 26 v0 rfl rfl)
 obtain ⟨fuel0, hf0⟩ := h0
 obtain ⟨x0, hK0, w0⟩ := opens_T26 H enc W _ _ _ fuel0 _ _ hf0 z0
 obtain ⟨A0_0, c0_0, hcs0, hc0_0, hr0_0⟩ := hK0
 simp only [Value.cells, List.cons_append, List.nil_append, List.append_eq] at hcs0
 subst hcs0
 obtain ⟨a1, rfl, rfl, rfl, w1⟩ := open_int Try.underlying3 (hval 1 3 v1 rfl rfl) h1
 have k2 := h2
 have lt2 : ∀ x ∈ p2, x.block < W.heap.size := by obtain ⟨m, hm⟩ := k2; exact DataW.trod_lt m _ _ _ hm
 have z2 : ∀ n ∈ d2.weights Try.prog 23, n ≤ reachBytes := fun n hn => of_decide_eq_true (List.all_eq_true.1 hsz n (DataW.weights_mem_each (j := 2) rfl rfl n hn))
 obtain ⟨⟨cs2⟩, rfl, _⟩ := okWide_struct Try.underlying23 (hval 2 23 v2 rfl rfl)
 obtain ⟨fuel2, hf2⟩ := h2
 obtain ⟨x2, hK2, w2⟩ := opens_T23 H enc W _ _ _ fuel2 _ _ hf2 z2
 obtain ⟨_, _, hcs2, rfl, ⟨_, _, rfl, rfl, ⟨_, _, rfl, rfl, ⟨_, _, rfl, rfl, ⟨_, _, rfl, rfl, ⟨_, _, rfl, rfl, ⟨_, _, rfl, rfl, rfl⟩⟩⟩⟩⟩⟩⟩ := hK2
 simp only [Value.cells, List.cons_append, List.nil_append, List.append_eq] at hcs2
 subst hcs2
 clear hA0 hval0 hsz0 hsz
 obtain ⟨k_, hP⟩ := Pure.NetAgain (x0.f0) a1 (x2.f0) (x2.f1) (x2.f2) (x2.f3) (x2.f4) (x2.f5) (x2.f6) (x2.f7) w0 w1 w2.1 w2.2.1 w2.2.2.1 w2.2.2.2.1 w2.2.2.2.2.1 w2.2.2.2.2.2.1 w2.2.2.2.2.2.2.1 w2.2.2.2.2.2.2.2
 refine (haywainlaw22_NetAgain.calls k_ A0_0 c0_0 (x0.f0) a1 (x2.f0) (x2.f1) (x2.f2) (x2.f3) (x2.f4) (x2.f5) (x2.f6) (x2.f7) true W hr0_0 hc0_0 hP).mono fun e W' ⟨he, bel0⟩ => ?_
 have bel : Below W.heap.size W W' := bel0
 subst he
 exact ⟨_, rfl, _, _, _, [], _, [], hW', trodAll_mk1 (shut_bool Try.underlying4 _), (trodAll_cons_mk (Below.trod laidOut (by kernel_rfl) (of_decide_eq_true (by kernel_rfl)) k0 bel lt0) (trodAll_cons_mk (shut_int Try.underlying3 w1) (trodAll_cons_mk (Below.trod laidOut (by kernel_rfl) (of_decide_eq_true (by kernel_rfl)) k2 bel lt2) trodAll_mk0))), rfl, bel.frame _, fun h => by cases h⟩
theorem over : Rows.netAgainRow.holds Try.pinned (OpenSpec.ofChange Rows.netAgainSpec) :=
 OpenClaim.holds_of_wide 7 Try.f7 rfl rfl rfl rfl rfl rfl rfl ⟨rfl, rfl, rfl, rfl, rfl⟩ rfl rfl rfl rfl rfl (by kernel_rfl) Try.func7 (by kernel_rfl)
  (of_decide_eq_true (by kernel_rfl)) (by unfold Func.isWrapper; first | (rw [if_pos (by decide +kernel)]; kernel_rfl) | (rw [if_neg (by decide +kernel)]; exact ⟨rfl, rfl⟩))
  (fun os started H enc _ => lifted os started H enc)
theorem proved : Rows.NetAgainSaid := over
#print axioms proved
end Go.Proofs.Ytodjglekfamaaaa.netAgain
namespace Go.Proofs.Ytodjglekfamaaaa
/-- The row, under a short name, for the claim. -/
theorem netAgain_holds : Rows.NetAgainSaid := netAgain.proved
end Go.Proofs.Ytodjglekfamaaaa
