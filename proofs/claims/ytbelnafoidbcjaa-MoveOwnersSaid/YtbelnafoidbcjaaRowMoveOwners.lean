-- The row of the law MoveOwners out of its pure statement and its contract. Written by a program of ours (wip/tools/ownrow.py), after the print's own rows.
import Derived.Test.YtbelnafoidbcjaaRows
import Derived.Test.YtbelnafoidbcjaaPMovex11
import Derived.Test.YtbelnafoidbcjaaPureMoveOwners
import Derived.Test.YtbelnafoidbcjaaXOpen
import Derived.WalkKit
import Derived.ProofKit
import Derived.OpenShut
import Derived.ShutString
import Derived.ChangeOld
import Derived.Below
import Derived.SizedLaws
import Derived.WideShapes
namespace Go.Proofs.Ytbelnafoidbcjaa.moveOwners
open Go.ChangeShapes Go.WideShapes Go.ChangeAt Go.RowKit Go.Proofs.Ytbelnafoidbcjaa.PMove Go.Proofs.Ytbelnafoidbcjaa.Open Go.Proofs.YtbelnafoidbcjaaW.PrintWords
open Go.ChangeMaps (open_string shut_string)
set_option linter.unusedVariables false
set_option linter.unusedSimpArgs false
theorem own : ownKnob Try.prog.godebug = none := by kernel_rfl
theorem laidOut : laidOutB Try.prog = true := by kernel_rfl
theorem opens_T25 : Opens Try.prog 25 k25 okT25_MoveOwners := opens_iso (opens_struct Try.underlying25 (by kernel_rfl) (opensF_cons rfl (by kernel_rfl) (opens_int Try.underlying3) (opensF_cons rfl (by kernel_rfl) (opens_slice (B := 8) Try.underlying22 (by kernel_rfl) (by kernel_rfl) (opens_int Try.underlying3)) (opensF_cons rfl (by kernel_rfl) (opens_slice (B := 8) Try.underlying22 (by kernel_rfl) (by kernel_rfl) (opens_int Try.underlying3)) (opensF_cons rfl (by kernel_rfl) (opens_slice (B := 8) Try.underlying22 (by kernel_rfl) (by kernel_rfl) (opens_int Try.underlying3)) (opensF_one rfl (by kernel_rfl) (opens_int Try.underlying3)) rfl) rfl) rfl) rfl)) (fun a => ⟨a.1, a.2.1, a.2.2.1, a.2.2.2.1, a.2.2.2.2⟩) (fun a => rfl)
set_option maxRecDepth 100000 in
theorem lifted (os : Os) (started : os.Started) (H : Type) (enc : TypeId × Value → H) :
  ReturnsInHanded {} Try.checked os 4 .any (Rows.moveOwnersSpec.pre6 enc Try.prog Try.f4 Rows.moveOwnersRow.domain false) (Rows.moveOwnersSpec.post enc Try.prog Try.f4 false true false false) := by
 refine returnsInHanded_of_change_sized (C := Try.checked) own started (by kernel_rfl) Try.func4
  (ChangeSpec.witness6 (enc := enc) (C := Try.checked) false ⟨#[], #[.agg #[.int .i64 0, .slice none 0 0, .slice none 0 0, .slice none 0 0, .int .i64 0], .int .i64 0], []⟩ 8 (by kernel_rfl) (by kernel_rfl) (by kernel_rfl) (by kernel_rfl)) ?_
 intro W base args ds gs before hval0 hW hcnd hsz0 _
 have hsz : (DataW.weightsEach Try.prog (Try.f4.params.toList ++ Rows.moveOwnersSpec.plain.varTypes Try.prog) (ds ++ gs)).all (· ≤ reachBytes) = true := hsz0
 have hval : ∀ (j : Nat) t v, Try.f4.params[j]? = some t → args[j]? = some v → Value.okWide Try.prog W .any base t v := hval0
 have hW' := hW
 obtain ⟨p, q, hA0, hV, rfl, hfz, hnd⟩ := hW
 have hA : DataW.TrodAll enc Try.prog W 0 (fun _ => true) true Try.f4.params.toList args.toList ds p := hA0
 rw [Try.params4] at hA hval hsz
 obtain ⟨v0, vs0, d0, ds0, p0, q0, hargs, rfl, rfl, h0, r0⟩ := trodAll_cons hA
 obtain ⟨v1, vs1, d1, ds1, p1, q1, rfl, rfl, rfl, h1, r1⟩ := trodAll_cons r0
 obtain ⟨rfl, rfl, rfl⟩ := trodAll_nil r1
 obtain rfl : args = #[v0, v1] := by cases args; simp_all
 obtain ⟨rfl, rfl⟩ := trodVars_none hV
 have k0 := h0
 have lt0 : ∀ x ∈ p0, x.block < W.heap.size := by obtain ⟨m, hm⟩ := k0; exact DataW.trod_lt m _ _ _ hm
 have z0 : ∀ n ∈ d0.weights Try.prog 25, n ≤ reachBytes := fun n hn => of_decide_eq_true (List.all_eq_true.1 hsz n (DataW.weights_mem_each (j := 0) rfl rfl n hn))
 obtain ⟨⟨cs0⟩, rfl, _⟩ := okWide_struct Try.underlying25 (hval 0 25 v0 rfl rfl)
 obtain ⟨fuel0, hf0⟩ := h0
 obtain ⟨x0, hK0, w0⟩ := opens_T25 H enc W _ _ _ fuel0 _ _ hf0 z0
 obtain ⟨_, _, hcs0, rfl, ⟨_, _, rfl, ⟨A0_1, c0_1, rfl, hc0_1, hr0_1⟩, ⟨_, _, rfl, ⟨A0_2, c0_2, rfl, hc0_2, hr0_2⟩, ⟨_, _, rfl, ⟨A0_3, c0_3, rfl, hc0_3, hr0_3⟩, rfl⟩⟩⟩⟩ := hK0
 simp only [Value.cells, List.cons_append, List.nil_append, List.append_eq] at hcs0
 subst hcs0
 obtain ⟨a1, rfl, rfl, rfl, w1⟩ := open_int Try.underlying3 (hval 1 3 v1 rfl rfl) h1
 clear hA0 hval0 hsz0 hsz
 obtain ⟨k_, hP⟩ := Pure.MoveOwners (x0.f0) (x0.f1) (x0.f2) (x0.f3) (x0.f4) a1 w0.1 w0.2.1 w0.2.2.1 w0.2.2.2.1 w0.2.2.2.2 w1
 refine (haywainlaw18_MoveOwners.calls k_ (x0.f0) A0_1 c0_1 (x0.f1) A0_2 c0_2 (x0.f2) A0_3 c0_3 (x0.f3) (x0.f4) a1 true W hr0_1 hc0_1 hr0_2 hc0_2 hr0_3 hc0_3 hP).mono fun e W' ⟨he, bel0⟩ => ?_
 have bel : Below W.heap.size W W' := bel0
 subst he
 exact ⟨_, rfl, _, _, _, [], _, [], hW', trodAll_mk1 (shut_bool Try.underlying4 _), (trodAll_cons_mk (Below.trod laidOut (by kernel_rfl) (of_decide_eq_true (by kernel_rfl)) k0 bel lt0) (trodAll_cons_mk (shut_int Try.underlying3 w1) trodAll_mk0)), rfl, bel.frame _, fun h => by cases h⟩
theorem over : Rows.moveOwnersRow.holds Try.pinned (OpenSpec.ofChange Rows.moveOwnersSpec) :=
 OpenClaim.holds_of_wide 4 Try.f4 rfl rfl rfl rfl rfl rfl rfl ⟨rfl, rfl, rfl, rfl, rfl⟩ rfl rfl rfl rfl rfl (by kernel_rfl) Try.func4 (by kernel_rfl)
  (of_decide_eq_true (by kernel_rfl)) (by unfold Func.isWrapper; first | (rw [if_pos (by decide +kernel)]; kernel_rfl) | (rw [if_neg (by decide +kernel)]; exact ⟨rfl, rfl⟩))
  (fun os started H enc _ => lifted os started H enc)
theorem proved : Rows.MoveOwnersSaid := over
#print axioms proved
end Go.Proofs.Ytbelnafoidbcjaa.moveOwners
namespace Go.Proofs.Ytbelnafoidbcjaa
/-- The row, under a short name, for the claim. -/
theorem moveOwners_holds : Rows.MoveOwnersSaid := moveOwners.proved
end Go.Proofs.Ytbelnafoidbcjaa
