-- The row of the law NetPlays out of its pure statement and its contract. Written by a program of ours (wip/tools/ownrow.py), after the print's own rows.
import Derived.Test.YtodjglekfamaaaaRows
import Derived.Test.YtodjglekfamaaaaPNetx10
import Derived.Test.YtodjglekfamaaaaPureNetPlays
import Derived.Test.YtodjglekfamaaaaXOpen
import Derived.WalkKit
import Derived.ProofKit
import Derived.OpenShut
import Derived.ShutString
import Derived.ChangeOld
import Derived.Below
import Derived.SizedLaws
import Derived.WideShapes
namespace Go.Proofs.Ytodjglekfamaaaa.netPlays
open Go.ChangeShapes Go.WideShapes Go.ChangeAt Go.RowKit Go.Proofs.Ytodjglekfamaaaa.PNet Go.Proofs.Ytodjglekfamaaaa.Open Go.Proofs.YtodjglekfamaaaaW.PrintWords
open Go.ChangeMaps (open_string shut_string)
set_option linter.unusedVariables false
set_option linter.unusedSimpArgs false
theorem own : ownKnob Try.prog.godebug = none := by kernel_rfl
theorem laidOut : laidOutB Try.prog = true := by kernel_rfl
theorem opens_T23 : Opens Try.prog 23 k23 okT23_NetPlays := opens_iso (opens_struct Try.underlying23 (by kernel_rfl) (opensF_cons rfl (by kernel_rfl) (opens_int Try.underlying3) (opensF_cons rfl (by kernel_rfl) (opens_int Try.underlying3) (opensF_cons rfl (by kernel_rfl) (opens_int Try.underlying3) (opensF_cons rfl (by kernel_rfl) (opens_int Try.underlying3) (opensF_cons rfl (by kernel_rfl) (opens_int Try.underlying3) (opensF_cons rfl (by kernel_rfl) (opens_int Try.underlying3) (opensF_cons rfl (by kernel_rfl) (opens_int Try.underlying3) (opensF_one rfl (by kernel_rfl) (opens_string Try.underlying9)) rfl) rfl) rfl) rfl) rfl) rfl) rfl)) (fun a => ⟨a.1, a.2.1, a.2.2.1, a.2.2.2.1, a.2.2.2.2.1, a.2.2.2.2.2.1, a.2.2.2.2.2.2.1, a.2.2.2.2.2.2.2⟩) (fun a => rfl)
theorem opens_T26 : Opens Try.prog 26 k26 okT26_NetPlays := opens_iso (opens_struct Try.underlying26 (by kernel_rfl) (opensF_one rfl (by kernel_rfl) (opens_slice (B := 72) Try.underlying24 (by kernel_rfl) (by kernel_rfl) opens_T23))) (fun a => ⟨a⟩) (fun a => rfl)
theorem opens_T39 : Opens Try.prog 39 k39 okT39_NetPlays := opens_iso (opens_struct Try.underlying39 (by kernel_rfl) (opensF_cons rfl (by kernel_rfl) (opens_int Try.underlying3) (opensF_cons rfl (by kernel_rfl) (opens_int Try.underlying3) (opensF_one rfl (by kernel_rfl) (opens_slice (B := 72) Try.underlying24 (by kernel_rfl) (by kernel_rfl) opens_T23)) rfl) rfl)) (fun a => ⟨a.1, a.2.1, a.2.2⟩) (fun a => rfl)
set_option maxRecDepth 100000 in
theorem lifted (os : Os) (started : os.Started) (H : Type) (enc : TypeId × Value → H) :
  ReturnsInHanded {} Try.checked os 4 .any (Rows.netPlaysSpec.pre6 enc Try.prog Try.f4 Rows.netPlaysRow.domain false) (Rows.netPlaysSpec.post enc Try.prog Try.f4 false true false false) := by
 refine returnsInHanded_of_change_sized (C := Try.checked) own started (by kernel_rfl) Try.func4
  (ChangeSpec.witness6 (enc := enc) (C := Try.checked) false ⟨#[], #[.agg #[.slice none 0 0], .slice none 0 0], []⟩ 8 (by kernel_rfl) (by kernel_rfl) (by kernel_rfl) (by kernel_rfl)) ?_
 intro W base args ds gs before hval0 hW hcnd hsz0 _
 have hsz : (DataW.weightsEach Try.prog (Try.f4.params.toList ++ Rows.netPlaysSpec.plain.varTypes Try.prog) (ds ++ gs)).all (· ≤ reachBytes) = true := hsz0
 have hval : ∀ (j : Nat) t v, Try.f4.params[j]? = some t → args[j]? = some v → Value.okWide Try.prog W .any base t v := hval0
 have hW' := hW
 obtain ⟨p, q, hA0, hV, rfl, hfz, hnd⟩ := hW
 have hA : DataW.TrodAll enc Try.prog W 0 (fun _ => true) true Try.f4.params.toList args.toList ds p := hA0
 rw [Try.params4] at hA hval hsz
 obtain ⟨v0, vs0, d0, ds0, p0, q0, hargs, rfl, rfl, h0, r0⟩ := trodAll_cons hA
 obtain ⟨v1, vs1, d1, ds1, p1, q1, rfl, rfl, rfl, h1, r1⟩ := trodAll_cons r0
 obtain ⟨rfl, rfl, rfl⟩ := trodAll_nil r1
 obtain rfl : args = #[v0, v1] := by cases args; simp_all
 obtain ⟨rfl, rfl⟩ := trodVars_none hV
 have k0 := h0
 have lt0 : ∀ x ∈ p0, x.block < W.heap.size := by obtain ⟨m, hm⟩ := k0; exact DataW.trod_lt m _ _ _ hm
 have z0 : ∀ n ∈ d0.weights Try.prog 26, n ≤ reachBytes := fun n hn => of_decide_eq_true (List.all_eq_true.1 hsz n (DataW.weights_mem_each (j := 0) rfl rfl n hn))
 obtain ⟨⟨cs0⟩, rfl, _⟩ := okWide_struct Try.underlying26 (hval 0 26 v0 rfl rfl)
 obtain ⟨fuel0, hf0⟩ := h0
 obtain ⟨x0, hK0, w0⟩ := opens_T26 H enc W _ _ _ fuel0 _ _ hf0 z0
 obtain ⟨A0_0, c0_0, hcs0, hc0_0, hr0_0⟩ := hK0
 simp only [Value.cells, List.cons_append, List.nil_append, List.append_eq] at hcs0
 subst hcs0
 have k1 := h1
 have lt1 : ∀ x ∈ p1, x.block < W.heap.size := by obtain ⟨m, hm⟩ := k1; exact DataW.trod_lt m _ _ _ hm
 have z1 : ∀ n ∈ d1.weights Try.prog 37, n ≤ reachBytes := fun n hn => of_decide_eq_true (List.all_eq_true.1 hsz n (DataW.weights_mem_each (j := 1) rfl rfl n hn))
 obtain ⟨a1, len1, cap1, rfl⟩ := okWide_slice Try.underlying37 (hval 1 37 v1 rfl rfl)
 obtain ⟨fuel1, hf1⟩ := h1
 obtain ⟨l1, ⟨A1, c1, e1, hc1, hr1⟩, w1⟩ := ((opens_slice (B := 40) Try.underlying37 (by kernel_rfl) (by kernel_rfl) opens_T39) : Opens Try.prog 37 (Kd.slice 39 k39) (fun l => (l.length ≤ maxLen ∧ l.length * 40 ≤ 140737488351232 ∧ ∀ a ∈ l, okT39_NetPlays a))) H enc W _ _ _ fuel1 _ _ hf1 z1
 simp only [Value.cells, List.cons.injEq, Value.slice.injEq, and_true] at e1
 obtain ⟨rfl, rfl, rfl⟩ := e1
 clear hA0 hval0 hsz0 hsz
 obtain ⟨k_, hP⟩ := Pure.NetPlays (x0.f0) l1 w0 w1
 refine (haywainlaw22_NetPlays.calls k_ (fun k_ => k_ < W.heap.size) A0_0 c0_0 (x0.f0) _ _ l1 true W (Kd.V_mk hc0_0 (Kd.C_F k23_heap hr0_0)) hr1 hc1 hP).mono fun e W' ⟨he, bel0⟩ => ?_
 have bel : Below W.heap.size W W' := bel0
 subst he
 exact ⟨_, rfl, _, _, _, [], _, [], hW', trodAll_mk1 (shut_bool Try.underlying4 _), (trodAll_cons_mk (Below.trod laidOut (by kernel_rfl) (of_decide_eq_true (by kernel_rfl)) k0 bel lt0) (trodAll_cons_mk (Below.trod laidOut (by kernel_rfl) (of_decide_eq_true (by kernel_rfl)) k1 bel lt1) trodAll_mk0)), rfl, bel.frame _, fun h => by cases h⟩
theorem over : Rows.netPlaysRow.holds Try.pinned (OpenSpec.ofChange Rows.netPlaysSpec) :=
 OpenClaim.holds_of_wide 4 Try.f4 rfl rfl rfl rfl rfl rfl rfl ⟨rfl, rfl, rfl, rfl, rfl⟩ rfl rfl rfl rfl rfl (by kernel_rfl) Try.func4 (by kernel_rfl)
  (of_decide_eq_true (by kernel_rfl)) (by unfold Func.isWrapper; first | (rw [if_pos (by decide +kernel)]; kernel_rfl) | (rw [if_neg (by decide +kernel)]; exact ⟨rfl, rfl⟩))
  (fun os started H enc _ => lifted os started H enc)
theorem proved : Rows.NetPlaysSaid := over
#print axioms proved
end Go.Proofs.Ytodjglekfamaaaa.netPlays
namespace Go.Proofs.Ytodjglekfamaaaa
/-- The row, under a short name, for the claim. -/
theorem netPlays_holds : Rows.NetPlaysSaid := netPlays.proved
end Go.Proofs.Ytodjglekfamaaaa
