/-
  No cell of these rows narrows 'for every input' (looked for: loops, veiled, ifaces, maps, wideKeys, modest, calm, conditions, laid).
  DERIVED. THE GIVEN ROWS OF THIS SEAT. 7 by the template 'for every input the law returns true; each argument reads behind the call as it read before'; 0 by the template 'total and deterministic' (their statements: YtjlmlmacgopliaaTotals.lean).
  GIVEN WITH THE SEED: the statements are not yours to turn. If you find one false, say at which input.
  Laid BY PROGRAM, IN A SANDBOX (cutbox-rows.mjs): the forced cells as the released guide's own fill.sh prints them over the translation 8ba545442db09d5e… (all of the seat's roots in one cut). By AI agents, Wed Nov 11 2026. No macro, syntax, notation, axiom, sorry.
-/
import Derived.Test.YtjlmlmacgopliaaChecked
import GoSem.Claim
import GoSem.ClaimJoined
import GoSem.ClaimMapViews
import Derived.JoinedTies
import Derived.KernelRfl
namespace Go.Proofs.Ytjlmlmacgopliaa
/- THE CELL 'sum', in the pinned program and in every row, IS THE sha256 OF THE DUMP (.gsa) THAT YtjlmlmacgopliaaProg.lean LOADS. Nothing in Lean hashes anything: it is a label: what it is worth is what the hold of that sum in a sandbox is worth. -/
noncomputable def Try.pinned : Pinned := { name := "ytjlmlmacgopliaa", sum := "8ba545442db09d5e3bb3b0dd5ca4f1356b09c1d4ea813eaa67c22293a92fb27d", checked := Try.checked }
namespace Rows
def none {H : Type} : Left H := { results := [], args := [] }

/-- 'haywainlaw10.PlanMoves': WHATEVER THE INPUT: true; the input reads as it did. -/
def planMovesSpec : ChangeSpec := { name := "planMoves", fn := fun _ => fun
  | [d1, d2] => { results := [.lit (.bool true)], args := [d1, d2] }
  | _ => none }
def planMovesRow : OpenClaim := { program := "ytjlmlmacgopliaa", sum := "8ba545442db09d5e3bb3b0dd5ca4f1356b09c1d4ea813eaa67c22293a92fb27d", func := "haywain/haywainlaw10.PlanMoves", spec := "planMoves", unfollowed := true, recurses := true, apart := false }
def PlanMovesSaid : Prop := planMovesRow.holds Try.pinned (OpenSpec.ofChange planMovesSpec)

/-- ITS FALSE NEIGHBOUR: 'it returns false'. Refute it at one input. -/
def planMovesWrong : ChangeSpec := { name := "planMoves", fn := fun _ => fun
  | [d1, d2] => { results := [.lit (.bool false)], args := [d1, d2] }
  | _ => none }
def PlanMovesWrongFalsely : Prop := planMovesRow.holds Try.pinned (OpenSpec.ofChange planMovesWrong)

/-- 'haywainlaw10.PlanApplies': WHATEVER THE INPUT: true; the input reads as it did. -/
def planAppliesSpec : ChangeSpec := { name := "planApplies", fn := fun _ => fun
  | [d1, d2] => { results := [.lit (.bool true)], args := [d1, d2] }
  | _ => none }
def planAppliesRow : OpenClaim := { program := "ytjlmlmacgopliaa", sum := "8ba545442db09d5e3bb3b0dd5ca4f1356b09c1d4ea813eaa67c22293a92fb27d", func := "haywain/haywainlaw10.PlanApplies", spec := "planApplies", unfollowed := true, recurses := true, apart := false }
def PlanAppliesSaid : Prop := planAppliesRow.holds Try.pinned (OpenSpec.ofChange planAppliesSpec)

/-- ITS FALSE NEIGHBOUR: 'it returns false'. Refute it at one input. -/
def planAppliesWrong : ChangeSpec := { name := "planApplies", fn := fun _ => fun
  | [d1, d2] => { results := [.lit (.bool false)], args := [d1, d2] }
  | _ => none }
def PlanAppliesWrongFalsely : Prop := planAppliesRow.holds Try.pinned (OpenSpec.ofChange planAppliesWrong)

/-- 'haywainlaw10.PlanLoads': WHATEVER THE INPUT: true; the input reads as it did. -/
def planLoadsSpec : ChangeSpec := { name := "planLoads", fn := fun _ => fun
  | [d1, d2, d3, d4] => { results := [.lit (.bool true)], args := [d1, d2, d3, d4] }
  | _ => none }
def planLoadsRow : OpenClaim := { program := "ytjlmlmacgopliaa", sum := "8ba545442db09d5e3bb3b0dd5ca4f1356b09c1d4ea813eaa67c22293a92fb27d", func := "haywain/haywainlaw10.PlanLoads", spec := "planLoads", unfollowed := true, recurses := true, apart := false }
def PlanLoadsSaid : Prop := planLoadsRow.holds Try.pinned (OpenSpec.ofChange planLoadsSpec)

/-- ITS FALSE NEIGHBOUR: 'it returns false'. Refute it at one input. -/
def planLoadsWrong : ChangeSpec := { name := "planLoads", fn := fun _ => fun
  | [d1, d2, d3, d4] => { results := [.lit (.bool false)], args := [d1, d2, d3, d4] }
  | _ => none }
def PlanLoadsWrongFalsely : Prop := planLoadsRow.holds Try.pinned (OpenSpec.ofChange planLoadsWrong)

/-- 'haywainlaw10.PlanEvens': WHATEVER THE INPUT: true; the input reads as it did. -/
def planEvensSpec : ChangeSpec := { name := "planEvens", fn := fun _ => fun
  | [d1, d2, d3, d4] => { results := [.lit (.bool true)], args := [d1, d2, d3, d4] }
  | _ => none }
def planEvensRow : OpenClaim := { program := "ytjlmlmacgopliaa", sum := "8ba545442db09d5e3bb3b0dd5ca4f1356b09c1d4ea813eaa67c22293a92fb27d", func := "haywain/haywainlaw10.PlanEvens", spec := "planEvens", unfollowed := true, recurses := true, apart := false }
def PlanEvensSaid : Prop := planEvensRow.holds Try.pinned (OpenSpec.ofChange planEvensSpec)

/-- ITS FALSE NEIGHBOUR: 'it returns false'. Refute it at one input. -/
def planEvensWrong : ChangeSpec := { name := "planEvens", fn := fun _ => fun
  | [d1, d2, d3, d4] => { results := [.lit (.bool false)], args := [d1, d2, d3, d4] }
  | _ => none }
def PlanEvensWrongFalsely : Prop := planEvensRow.holds Try.pinned (OpenSpec.ofChange planEvensWrong)

/-- 'haywainlaw10.PlanBack': WHATEVER THE INPUT: true; the input reads as it did. -/
def planBackSpec : ChangeSpec := { name := "planBack", fn := fun _ => fun
  | [d1, d2] => { results := [.lit (.bool true)], args := [d1, d2] }
  | _ => none }
def planBackRow : OpenClaim := { program := "ytjlmlmacgopliaa", sum := "8ba545442db09d5e3bb3b0dd5ca4f1356b09c1d4ea813eaa67c22293a92fb27d", func := "haywain/haywainlaw10.PlanBack", spec := "planBack", unfollowed := true, recurses := true, apart := false }
def PlanBackSaid : Prop := planBackRow.holds Try.pinned (OpenSpec.ofChange planBackSpec)

/-- ITS FALSE NEIGHBOUR: 'it returns false'. Refute it at one input. -/
def planBackWrong : ChangeSpec := { name := "planBack", fn := fun _ => fun
  | [d1, d2] => { results := [.lit (.bool false)], args := [d1, d2] }
  | _ => none }
def PlanBackWrongFalsely : Prop := planBackRow.holds Try.pinned (OpenSpec.ofChange planBackWrong)

/-- 'haywainlaw10.PlanBetter': WHATEVER THE INPUT: true; the input reads as it did. -/
def planBetterSpec : ChangeSpec := { name := "planBetter", fn := fun _ => fun
  | [d1, d2, d3, d4] => { results := [.lit (.bool true)], args := [d1, d2, d3, d4] }
  | _ => none }
def planBetterRow : OpenClaim := { program := "ytjlmlmacgopliaa", sum := "8ba545442db09d5e3bb3b0dd5ca4f1356b09c1d4ea813eaa67c22293a92fb27d", func := "haywain/haywainlaw10.PlanBetter", spec := "planBetter", unfollowed := true, recurses := true, apart := false }
def PlanBetterSaid : Prop := planBetterRow.holds Try.pinned (OpenSpec.ofChange planBetterSpec)

/-- ITS FALSE NEIGHBOUR: 'it returns false'. Refute it at one input. -/
def planBetterWrong : ChangeSpec := { name := "planBetter", fn := fun _ => fun
  | [d1, d2, d3, d4] => { results := [.lit (.bool false)], args := [d1, d2, d3, d4] }
  | _ => none }
def PlanBetterWrongFalsely : Prop := planBetterRow.holds Try.pinned (OpenSpec.ofChange planBetterWrong)

/-- 'haywainlaw10.PlanSteady': WHATEVER THE INPUT: true; the input reads as it did. -/
def planSteadySpec : ChangeSpec := { name := "planSteady", fn := fun _ => fun
  | [d1, d2, d3, d4] => { results := [.lit (.bool true)], args := [d1, d2, d3, d4] }
  | _ => none }
def planSteadyRow : OpenClaim := { program := "ytjlmlmacgopliaa", sum := "8ba545442db09d5e3bb3b0dd5ca4f1356b09c1d4ea813eaa67c22293a92fb27d", func := "haywain/haywainlaw10.PlanSteady", spec := "planSteady", unfollowed := true, recurses := true, apart := false }
def PlanSteadySaid : Prop := planSteadyRow.holds Try.pinned (OpenSpec.ofChange planSteadySpec)

/-- ITS FALSE NEIGHBOUR: 'it returns false'. Refute it at one input. -/
def planSteadyWrong : ChangeSpec := { name := "planSteady", fn := fun _ => fun
  | [d1, d2, d3, d4] => { results := [.lit (.bool false)], args := [d1, d2, d3, d4] }
  | _ => none }
def PlanSteadyWrongFalsely : Prop := planSteadyRow.holds Try.pinned (OpenSpec.ofChange planSteadyWrong)

/- THE SECOND FORM. 'bulk': how many values and letters a reading holds, each counted each time it is reached (what is shared counts as often as it is met; a slice's spare places count too). A statement '..UptoSaid' is the law's where the arguments, and the package variables that the reading takes, are together of bulk at most 1048576: NARROWER than '..Said'. Prove '..Said' where nothing that the law and all that it calls make is longer than what came in: it says more and counts as full. Else prove '..UptoSaid'. A law counts once. -/
mutual
def uptoBulk {H : Type} : DataW H → Nat
  | .lit (.string bytes) => bytes.length + 1
  | .lit _ => 1
  | .nil => 1
  | .ptr d => uptoBulk d + 1
  | .slice elems spare => uptoBulkAll elems + uptoBulkAll spare + 1
  | .agg parts => uptoBulkAll parts + 1
  | .iface _ d => uptoBulk d + 1
  | .map entries => uptoBulkEntries entries + 1
  | .held _ => 1
def uptoBulkAll {H : Type} : List (DataW H) → Nat
  | [] => 0
  | d :: r => uptoBulk d + uptoBulkAll r
def uptoBulkEntries {H : Type} : List (Lit × DataW H) → Nat
  | [] => 0
  | x :: r => uptoBulkEntry x + uptoBulkEntries r
def uptoBulkEntry {H : Type} : Lit × DataW H → Nat
  | (.string bytes, d) => bytes.length + uptoBulk d + 1
  | (_, d) => uptoBulk d + 1
 end
def uptoSmall : (H : Type) → List (DataW H) → Bool := fun _ ds => decide (uptoBulkAll ds ≤ 1048576)
def OpenSpec.upto (s : _root_.Go.ChangeSpec) : _root_.Go.OpenSpec := { _root_.Go.OpenSpec.ofChange s with cond := some uptoSmall }

/-- 'haywainlaw10.PlanMoves', WHERE WHAT IT READS IS OF BULK AT MOST 1048576: true; the input reads as it did. -/
def planMovesUptoRow : OpenClaim := { program := "ytjlmlmacgopliaa", sum := "8ba545442db09d5e3bb3b0dd5ca4f1356b09c1d4ea813eaa67c22293a92fb27d", func := "haywain/haywainlaw10.PlanMoves", spec := "planMoves", unfollowed := true, recurses := true, apart := false, narrowed := true }
def PlanMovesUptoSaid : Prop := planMovesUptoRow.holds Try.pinned (OpenSpec.upto planMovesSpec)

/-- 'haywainlaw10.PlanApplies', WHERE WHAT IT READS IS OF BULK AT MOST 1048576: true; the input reads as it did. -/
def planAppliesUptoRow : OpenClaim := { program := "ytjlmlmacgopliaa", sum := "8ba545442db09d5e3bb3b0dd5ca4f1356b09c1d4ea813eaa67c22293a92fb27d", func := "haywain/haywainlaw10.PlanApplies", spec := "planApplies", unfollowed := true, recurses := true, apart := false, narrowed := true }
def PlanAppliesUptoSaid : Prop := planAppliesUptoRow.holds Try.pinned (OpenSpec.upto planAppliesSpec)

/-- 'haywainlaw10.PlanLoads', WHERE WHAT IT READS IS OF BULK AT MOST 1048576: true; the input reads as it did. -/
def planLoadsUptoRow : OpenClaim := { program := "ytjlmlmacgopliaa", sum := "8ba545442db09d5e3bb3b0dd5ca4f1356b09c1d4ea813eaa67c22293a92fb27d", func := "haywain/haywainlaw10.PlanLoads", spec := "planLoads", unfollowed := true, recurses := true, apart := false, narrowed := true }
def PlanLoadsUptoSaid : Prop := planLoadsUptoRow.holds Try.pinned (OpenSpec.upto planLoadsSpec)

/-- 'haywainlaw10.PlanEvens', WHERE WHAT IT READS IS OF BULK AT MOST 1048576: true; the input reads as it did. -/
def planEvensUptoRow : OpenClaim := { program := "ytjlmlmacgopliaa", sum := "8ba545442db09d5e3bb3b0dd5ca4f1356b09c1d4ea813eaa67c22293a92fb27d", func := "haywain/haywainlaw10.PlanEvens", spec := "planEvens", unfollowed := true, recurses := true, apart := false, narrowed := true }
def PlanEvensUptoSaid : Prop := planEvensUptoRow.holds Try.pinned (OpenSpec.upto planEvensSpec)

/-- 'haywainlaw10.PlanBack', WHERE WHAT IT READS IS OF BULK AT MOST 1048576: true; the input reads as it did. -/
def planBackUptoRow : OpenClaim := { program := "ytjlmlmacgopliaa", sum := "8ba545442db09d5e3bb3b0dd5ca4f1356b09c1d4ea813eaa67c22293a92fb27d", func := "haywain/haywainlaw10.PlanBack", spec := "planBack", unfollowed := true, recurses := true, apart := false, narrowed := true }
def PlanBackUptoSaid : Prop := planBackUptoRow.holds Try.pinned (OpenSpec.upto planBackSpec)

/-- 'haywainlaw10.PlanBetter', WHERE WHAT IT READS IS OF BULK AT MOST 1048576: true; the input reads as it did. -/
def planBetterUptoRow : OpenClaim := { program := "ytjlmlmacgopliaa", sum := "8ba545442db09d5e3bb3b0dd5ca4f1356b09c1d4ea813eaa67c22293a92fb27d", func := "haywain/haywainlaw10.PlanBetter", spec := "planBetter", unfollowed := true, recurses := true, apart := false, narrowed := true }
def PlanBetterUptoSaid : Prop := planBetterUptoRow.holds Try.pinned (OpenSpec.upto planBetterSpec)

/-- 'haywainlaw10.PlanSteady', WHERE WHAT IT READS IS OF BULK AT MOST 1048576: true; the input reads as it did. -/
def planSteadyUptoRow : OpenClaim := { program := "ytjlmlmacgopliaa", sum := "8ba545442db09d5e3bb3b0dd5ca4f1356b09c1d4ea813eaa67c22293a92fb27d", func := "haywain/haywainlaw10.PlanSteady", spec := "planSteady", unfollowed := true, recurses := true, apart := false, narrowed := true }
def PlanSteadyUptoSaid : Prop := planSteadyUptoRow.holds Try.pinned (OpenSpec.upto planSteadySpec)

end Rows
end Go.Proofs.Ytjlmlmacgopliaa
