-- The row of the law RouteNewer out of its pure statement and its contract. Written by a program of ours (wip/tools/ownrow.py), after the print's own rows.
import Derived.Test.YtaanojcdmojgbaaRows
import Derived.Test.YtaanojcdmojgbaaPRouteNx8
import Derived.Test.YtaanojcdmojgbaaPureRouteNewer
import Derived.Test.YtaanojcdmojgbaaXOpen
import Derived.WalkKit
import Derived.ProofKit
import Derived.OpenShut
import Derived.ShutString
import Derived.ChangeOld
import Derived.Below
import Derived.SizedLaws
import Derived.WideShapes
namespace Go.Proofs.Ytaanojcdmojgbaa.routeNewer
open Go.ChangeShapes Go.WideShapes Go.ChangeAt Go.RowKit Go.Proofs.Ytaanojcdmojgbaa.PRouteN Go.Proofs.Ytaanojcdmojgbaa.Open Go.Proofs.YtaanojcdmojgbaaW.PrintWords
open Go.ChangeMaps (open_string shut_string)
set_option linter.unusedVariables false
set_option linter.unusedSimpArgs false
theorem own : ownKnob Try.prog.godebug = none := by kernel_rfl
theorem laidOut : laidOutB Try.prog = true := by kernel_rfl
theorem opens_T24 : Opens Try.prog 24 k24 okT24_RouteNewer := opens_iso (opens_struct Try.underlying24 (by kernel_rfl) (opensF_cons rfl (by kernel_rfl) (opens_int Try.underlying3) (opensF_cons rfl (by kernel_rfl) (opens_slice (B := 8) Try.underlying22 (by kernel_rfl) (by kernel_rfl) (opens_int Try.underlying3)) (opensF_cons rfl (by kernel_rfl) (opens_slice (B := 8) Try.underlying22 (by kernel_rfl) (by kernel_rfl) (opens_int Try.underlying3)) (opensF_one rfl (by kernel_rfl) (opens_slice (B := 8) Try.underlying22 (by kernel_rfl) (by kernel_rfl) (opens_int Try.underlying3))) rfl) rfl) rfl)) (fun a => ⟨a.1, a.2.1, a.2.2.1, a.2.2.2⟩) (fun a => rfl)
set_option maxRecDepth 100000 in
theorem lifted (os : Os) (started : os.Started) (H : Type) (enc : TypeId × Value → H) :
  ReturnsInHanded {} Try.checked os 8 .any (Rows.routeNewerSpec.pre6 enc Try.prog Try.f8 Rows.routeNewerRow.domain false) (Rows.routeNewerSpec.post enc Try.prog Try.f8 false true false false) := by
 refine returnsInHanded_of_change_sized (C := Try.checked) own started (by kernel_rfl) Try.func8
  (ChangeSpec.witness6 (enc := enc) (C := Try.checked) false ⟨#[], #[.agg #[.int .i64 0, .slice none 0 0, .slice none 0 0, .slice none 0 0], .agg #[.int .i64 0, .slice none 0 0, .slice none 0 0, .slice none 0 0], .agg #[.int .i64 0, .slice none 0 0, .slice none 0 0, .slice none 0 0]], []⟩ 8 (by kernel_rfl) (by kernel_rfl) (by kernel_rfl) (by kernel_rfl)) ?_
 intro W base args ds gs before hval0 hW hcnd hsz0 _
 have hsz : (DataW.weightsEach Try.prog (Try.f8.params.toList ++ Rows.routeNewerSpec.plain.varTypes Try.prog) (ds ++ gs)).all (· ≤ reachBytes) = true := hsz0
 have hval : ∀ (j : Nat) t v, Try.f8.params[j]? = some t → args[j]? = some v → Value.okWide Try.prog W .any base t v := hval0
 have hW' := hW
 obtain ⟨p, q, hA0, hV, rfl, hfz, hnd⟩ := hW
 have hA : DataW.TrodAll enc Try.prog W 0 (fun _ => true) true Try.f8.params.toList args.toList ds p := hA0
 rw [Try.params8] at hA hval hsz
 obtain ⟨v0, vs0, d0, ds0, p0, q0, hargs, rfl, rfl, h0, r0⟩ := trodAll_cons hA
 obtain ⟨v1, vs1, d1, ds1, p1, q1, rfl, rfl, rfl, h1, r1⟩ := trodAll_cons r0
 obtain ⟨v2, vs2, d2, ds2, p2, q2, rfl, rfl, rfl, h2, r2⟩ := trodAll_cons r1
 obtain ⟨rfl, rfl, rfl⟩ := trodAll_nil r2
 obtain rfl : args = #[v0, v1, v2] := by cases args; simp_all
 obtain ⟨rfl, rfl⟩ := trodVars_none hV
 have k0 := h0
 have lt0 : ∀ x ∈ p0, x.block < W.heap.size := by obtain ⟨m, hm⟩ := k0; exact DataW.trod_lt m _ _ _ hm
 have z0 : ∀ n ∈ d0.weights Try.prog 24, n ≤ reachBytes := fun n hn => of_decide_eq_true (List.all_eq_true.1 hsz n (DataW.weights_mem_each (j := 0) rfl rfl n hn))
 obtain ⟨⟨cs0⟩, rfl, _⟩ := okWide_struct Try.underlying24 (hval 0 24 v0 rfl rfl)
 obtain ⟨fuel0, hf0⟩ := h0
 obtain ⟨x0, hK0, w0⟩ := opens_T24 H enc W _ _ _ fuel0 _ _ hf0 z0
 obtain ⟨_, _, hcs0, rfl, ⟨_, _, rfl, ⟨A0_1, c0_1, rfl, hc0_1, hr0_1⟩, ⟨_, _, rfl, ⟨A0_2, c0_2, rfl, hc0_2, hr0_2⟩, ⟨A0_3, c0_3, rfl, hc0_3, hr0_3⟩⟩⟩⟩ := hK0
 simp only [Value.cells, List.cons_append, List.nil_append, List.append_eq] at hcs0
 subst hcs0
 have k1 := h1
 have lt1 : ∀ x ∈ p1, x.block < W.heap.size := by obtain ⟨m, hm⟩ := k1; exact DataW.trod_lt m _ _ _ hm
 have z1 : ∀ n ∈ d1.weights Try.prog 24, n ≤ reachBytes := fun n hn => of_decide_eq_true (List.all_eq_true.1 hsz n (DataW.weights_mem_each (j := 1) rfl rfl n hn))
 obtain ⟨⟨cs1⟩, rfl, _⟩ := okWide_struct Try.underlying24 (hval 1 24 v1 rfl rfl)
 obtain ⟨fuel1, hf1⟩ := h1
 obtain ⟨x1, hK1, w1⟩ := opens_T24 H enc W _ _ _ fuel1 _ _ hf1 z1
 obtain ⟨_, _, hcs1, rfl, ⟨_, _, rfl, ⟨A1_1, c1_1, rfl, hc1_1, hr1_1⟩, ⟨_, _, rfl, ⟨A1_2, c1_2, rfl, hc1_2, hr1_2⟩, ⟨A1_3, c1_3, rfl, hc1_3, hr1_3⟩⟩⟩⟩ := hK1
 simp only [Value.cells, List.cons_append, List.nil_append, List.append_eq] at hcs1
 subst hcs1
 have k2 := h2
 have lt2 : ∀ x ∈ p2, x.block < W.heap.size := by obtain ⟨m, hm⟩ := k2; exact DataW.trod_lt m _ _ _ hm
 have z2 : ∀ n ∈ d2.weights Try.prog 24, n ≤ reachBytes := fun n hn => of_decide_eq_true (List.all_eq_true.1 hsz n (DataW.weights_mem_each (j := 2) rfl rfl n hn))
 obtain ⟨⟨cs2⟩, rfl, _⟩ := okWide_struct Try.underlying24 (hval 2 24 v2 rfl rfl)
 obtain ⟨fuel2, hf2⟩ := h2
 obtain ⟨x2, hK2, w2⟩ := opens_T24 H enc W _ _ _ fuel2 _ _ hf2 z2
 obtain ⟨_, _, hcs2, rfl, ⟨_, _, rfl, ⟨A2_1, c2_1, rfl, hc2_1, hr2_1⟩, ⟨_, _, rfl, ⟨A2_2, c2_2, rfl, hc2_2, hr2_2⟩, ⟨A2_3, c2_3, rfl, hc2_3, hr2_3⟩⟩⟩⟩ := hK2
 simp only [Value.cells, List.cons_append, List.nil_append, List.append_eq] at hcs2
 subst hcs2
 clear hA0 hval0 hsz0 hsz
 obtain ⟨k_, hP⟩ := Pure.RouteNewer (x0.f0) (x0.f1) (x0.f2) (x0.f3) (x1.f0) (x1.f1) (x1.f2) (x1.f3) (x2.f0) (x2.f1) (x2.f2) (x2.f3) w0.1 w0.2.1 w0.2.2.1 w0.2.2.2 w1.1 w1.2.1 w1.2.2.1 w1.2.2.2 w2.1 w2.2.1 w2.2.2.1 w2.2.2.2
 refine (haywainlaw17_RouteNewer.calls k_ (x0.f0) A0_1 c0_1 (x0.f1) A0_2 c0_2 (x0.f2) A0_3 c0_3 (x0.f3) (x1.f0) A1_1 c1_1 (x1.f1) A1_2 c1_2 (x1.f2) A1_3 c1_3 (x1.f3) (x2.f0) A2_1 c2_1 (x2.f1) A2_2 c2_2 (x2.f2) A2_3 c2_3 (x2.f3) true W hr0_1 hc0_1 hr0_2 hc0_2 hr0_3 hc0_3 hr1_1 hc1_1 hr1_2 hc1_2 hr1_3 hc1_3 hr2_1 hc2_1 hr2_2 hc2_2 hr2_3 hc2_3 hP).mono fun e W' ⟨he, bel0⟩ => ?_
 have bel : Below W.heap.size W W' := bel0
 subst he
 exact ⟨_, rfl, _, _, _, [], _, [], hW', trodAll_mk1 (shut_bool Try.underlying4 _), (trodAll_cons_mk (Below.trod laidOut (by kernel_rfl) (of_decide_eq_true (by kernel_rfl)) k0 bel lt0) (trodAll_cons_mk (Below.trod laidOut (by kernel_rfl) (of_decide_eq_true (by kernel_rfl)) k1 bel lt1) (trodAll_cons_mk (Below.trod laidOut (by kernel_rfl) (of_decide_eq_true (by kernel_rfl)) k2 bel lt2) trodAll_mk0))), rfl, bel.frame _, fun h => by cases h⟩
theorem over : Rows.routeNewerRow.holds Try.pinned (OpenSpec.ofChange Rows.routeNewerSpec) :=
 OpenClaim.holds_of_wide 8 Try.f8 rfl rfl rfl rfl rfl rfl rfl ⟨rfl, rfl, rfl, rfl, rfl⟩ rfl rfl rfl rfl rfl (by kernel_rfl) Try.func8 (by kernel_rfl)
  (of_decide_eq_true (by kernel_rfl)) (by unfold Func.isWrapper; first | (rw [if_pos (by decide +kernel)]; kernel_rfl) | (rw [if_neg (by decide +kernel)]; exact ⟨rfl, rfl⟩))
  (fun os started H enc _ => lifted os started H enc)
theorem proved : Rows.RouteNewerSaid := over
#print axioms proved
end Go.Proofs.Ytaanojcdmojgbaa.routeNewer
namespace Go.Proofs.Ytaanojcdmojgbaa
/-- The row, under a short name, for the claim. -/
theorem routeNewer_holds : Rows.RouteNewerSaid := routeNewer.proved
end Go.Proofs.Ytaanojcdmojgbaa
