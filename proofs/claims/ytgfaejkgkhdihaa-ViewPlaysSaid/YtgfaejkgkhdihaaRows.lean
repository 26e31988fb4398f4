/-
  No cell of these rows narrows 'for every input' (looked for: loops, veiled, ifaces, maps, wideKeys, modest, calm, conditions, laid).
  DERIVED. THE GIVEN ROWS OF THIS SEAT. 6 by the template 'for every input the law returns true; each argument reads behind the call as it read before'; 0 by the template 'total and deterministic' (their statements: YtgfaejkgkhdihaaTotals.lean).
  GIVEN WITH THE SEED: the statements are not yours to turn. If you find one false, say at which input.
  Laid BY PROGRAM, IN A SANDBOX (cutbox-rows.mjs): the forced cells as the released guide's own fill.sh prints them over the translation 7b5a072da03b8448… (all of the seat's roots in one cut). By AI agents, Wed Nov 11 2026. No macro, syntax, notation, axiom, sorry.
-/
import Derived.Test.YtgfaejkgkhdihaaChecked
import GoSem.Claim
import GoSem.ClaimJoined
import GoSem.ClaimMapViews
import Derived.JoinedTies
import Derived.KernelRfl
namespace Go.Proofs.Ytgfaejkgkhdihaa
/- THE CELL 'sum', in the pinned program and in every row, IS THE sha256 OF THE DUMP (.gsa) THAT YtgfaejkgkhdihaaProg.lean LOADS. Nothing in Lean hashes anything: it is a label: what it is worth is what the hold of that sum in a sandbox is worth. -/
noncomputable def Try.pinned : Pinned := { name := "ytgfaejkgkhdihaa", sum := "7b5a072da03b84489480851cf05ed6a44530c13afd03452139d813b80eb929c8", checked := Try.checked }
namespace Rows
def none {H : Type} : Left H := { results := [], args := [] }

/-- 'haywainlaw11.ViewAsks': WHATEVER THE INPUT: true; the input reads as it did. -/
def viewAsksSpec : ChangeSpec := { name := "viewAsks", fn := fun _ => fun
  | [d1, d2, d3, d4] => { results := [.lit (.bool true)], args := [d1, d2, d3, d4] }
  | _ => none }
def viewAsksRow : OpenClaim := { program := "ytgfaejkgkhdihaa", sum := "7b5a072da03b84489480851cf05ed6a44530c13afd03452139d813b80eb929c8", func := "haywain/haywainlaw11.ViewAsks", spec := "viewAsks", apart := false }
def ViewAsksSaid : Prop := viewAsksRow.holds Try.pinned (OpenSpec.ofChange viewAsksSpec)

/-- ITS FALSE NEIGHBOUR: 'it returns false'. Refute it at one input. -/
def viewAsksWrong : ChangeSpec := { name := "viewAsks", fn := fun _ => fun
  | [d1, d2, d3, d4] => { results := [.lit (.bool false)], args := [d1, d2, d3, d4] }
  | _ => none }
def ViewAsksWrongFalsely : Prop := viewAsksRow.holds Try.pinned (OpenSpec.ofChange viewAsksWrong)

/-- 'haywainlaw11.ViewPlays': WHATEVER THE INPUT: true; the input reads as it did. -/
def viewPlaysSpec : ChangeSpec := { name := "viewPlays", fn := fun _ => fun
  | [d1, d2] => { results := [.lit (.bool true)], args := [d1, d2] }
  | _ => none }
def viewPlaysRow : OpenClaim := { program := "ytgfaejkgkhdihaa", sum := "7b5a072da03b84489480851cf05ed6a44530c13afd03452139d813b80eb929c8", func := "haywain/haywainlaw11.ViewPlays", spec := "viewPlays", apart := false }
def ViewPlaysSaid : Prop := viewPlaysRow.holds Try.pinned (OpenSpec.ofChange viewPlaysSpec)

/-- ITS FALSE NEIGHBOUR: 'it returns false'. Refute it at one input. -/
def viewPlaysWrong : ChangeSpec := { name := "viewPlays", fn := fun _ => fun
  | [d1, d2] => { results := [.lit (.bool false)], args := [d1, d2] }
  | _ => none }
def ViewPlaysWrongFalsely : Prop := viewPlaysRow.holds Try.pinned (OpenSpec.ofChange viewPlaysWrong)

/-- 'haywainlaw11.ViewRises': WHATEVER THE INPUT: true; the input reads as it did. -/
def viewRisesSpec : ChangeSpec := { name := "viewRises", fn := fun _ => fun
  | [d1, d2] => { results := [.lit (.bool true)], args := [d1, d2] }
  | _ => none }
def viewRisesRow : OpenClaim := { program := "ytgfaejkgkhdihaa", sum := "7b5a072da03b84489480851cf05ed6a44530c13afd03452139d813b80eb929c8", func := "haywain/haywainlaw11.ViewRises", spec := "viewRises", apart := false }
def ViewRisesSaid : Prop := viewRisesRow.holds Try.pinned (OpenSpec.ofChange viewRisesSpec)

/-- ITS FALSE NEIGHBOUR: 'it returns false'. Refute it at one input. -/
def viewRisesWrong : ChangeSpec := { name := "viewRises", fn := fun _ => fun
  | [d1, d2] => { results := [.lit (.bool false)], args := [d1, d2] }
  | _ => none }
def ViewRisesWrongFalsely : Prop := viewRisesRow.holds Try.pinned (OpenSpec.ofChange viewRisesWrong)

/-- 'haywainlaw11.ViewBack': WHATEVER THE INPUT: true; the input reads as it did. -/
def viewBackSpec : ChangeSpec := { name := "viewBack", fn := fun _ => fun
  | [d1, d2, d3] => { results := [.lit (.bool true)], args := [d1, d2, d3] }
  | _ => none }
def viewBackRow : OpenClaim := { program := "ytgfaejkgkhdihaa", sum := "7b5a072da03b84489480851cf05ed6a44530c13afd03452139d813b80eb929c8", func := "haywain/haywainlaw11.ViewBack", spec := "viewBack", apart := false }
def ViewBackSaid : Prop := viewBackRow.holds Try.pinned (OpenSpec.ofChange viewBackSpec)

/-- ITS FALSE NEIGHBOUR: 'it returns false'. Refute it at one input. -/
def viewBackWrong : ChangeSpec := { name := "viewBack", fn := fun _ => fun
  | [d1, d2, d3] => { results := [.lit (.bool false)], args := [d1, d2, d3] }
  | _ => none }
def ViewBackWrongFalsely : Prop := viewBackRow.holds Try.pinned (OpenSpec.ofChange viewBackWrong)

/-- 'haywainlaw11.ViewFences': WHATEVER THE INPUT: true; the input reads as it did. -/
def viewFencesSpec : ChangeSpec := { name := "viewFences", fn := fun _ => fun
  | [d1, d2, d3, d4] => { results := [.lit (.bool true)], args := [d1, d2, d3, d4] }
  | _ => none }
def viewFencesRow : OpenClaim := { program := "ytgfaejkgkhdihaa", sum := "7b5a072da03b84489480851cf05ed6a44530c13afd03452139d813b80eb929c8", func := "haywain/haywainlaw11.ViewFences", spec := "viewFences", apart := false }
def ViewFencesSaid : Prop := viewFencesRow.holds Try.pinned (OpenSpec.ofChange viewFencesSpec)

/-- ITS FALSE NEIGHBOUR: 'it returns false'. Refute it at one input. -/
def viewFencesWrong : ChangeSpec := { name := "viewFences", fn := fun _ => fun
  | [d1, d2, d3, d4] => { results := [.lit (.bool false)], args := [d1, d2, d3, d4] }
  | _ => none }
def ViewFencesWrongFalsely : Prop := viewFencesRow.holds Try.pinned (OpenSpec.ofChange viewFencesWrong)

/-- 'haywainlaw11.ViewIncs': WHATEVER THE INPUT: true; the input reads as it did. -/
def viewIncsSpec : ChangeSpec := { name := "viewIncs", fn := fun _ => fun
  | [d1, d2, d3] => { results := [.lit (.bool true)], args := [d1, d2, d3] }
  | _ => none }
def viewIncsRow : OpenClaim := { program := "ytgfaejkgkhdihaa", sum := "7b5a072da03b84489480851cf05ed6a44530c13afd03452139d813b80eb929c8", func := "haywain/haywainlaw11.ViewIncs", spec := "viewIncs", apart := false }
def ViewIncsSaid : Prop := viewIncsRow.holds Try.pinned (OpenSpec.ofChange viewIncsSpec)

/-- ITS FALSE NEIGHBOUR: 'it returns false'. Refute it at one input. -/
def viewIncsWrong : ChangeSpec := { name := "viewIncs", fn := fun _ => fun
  | [d1, d2, d3] => { results := [.lit (.bool false)], args := [d1, d2, d3] }
  | _ => none }
def ViewIncsWrongFalsely : Prop := viewIncsRow.holds Try.pinned (OpenSpec.ofChange viewIncsWrong)

/- THE SECOND FORM. 'bulk': how many values and letters a reading holds, each counted each time it is reached (what is shared counts as often as it is met; a slice's spare places count too). A statement '..UptoSaid' is the law's where the arguments, and the package variables that the reading takes, are together of bulk at most 1048576: NARROWER than '..Said'. Prove '..Said' where nothing that the law and all that it calls make is longer than what came in: it says more and counts as full. Else prove '..UptoSaid'. A law counts once. -/
mutual
def uptoBulk {H : Type} : DataW H → Nat
  | .lit (.string bytes) => bytes.length + 1
  | .lit _ => 1
  | .nil => 1
  | .ptr d => uptoBulk d + 1
  | .slice elems spare => uptoBulkAll elems + uptoBulkAll spare + 1
  | .agg parts => uptoBulkAll parts + 1
  | .iface _ d => uptoBulk d + 1
  | .map entries => uptoBulkEntries entries + 1
  | .held _ => 1
def uptoBulkAll {H : Type} : List (DataW H) → Nat
  | [] => 0
  | d :: r => uptoBulk d + uptoBulkAll r
def uptoBulkEntries {H : Type} : List (Lit × DataW H) → Nat
  | [] => 0
  | x :: r => uptoBulkEntry x + uptoBulkEntries r
def uptoBulkEntry {H : Type} : Lit × DataW H → Nat
  | (.string bytes, d) => bytes.length + uptoBulk d + 1
  | (_, d) => uptoBulk d + 1
 end
def uptoSmall : (H : Type) → List (DataW H) → Bool := fun _ ds => decide (uptoBulkAll ds ≤ 1048576)
def OpenSpec.upto (s : _root_.Go.ChangeSpec) : _root_.Go.OpenSpec := { _root_.Go.OpenSpec.ofChange s with cond := some uptoSmall }

/-- 'haywainlaw11.ViewAsks', WHERE WHAT IT READS IS OF BULK AT MOST 1048576: true; the input reads as it did. -/
def viewAsksUptoRow : OpenClaim := { program := "ytgfaejkgkhdihaa", sum := "7b5a072da03b84489480851cf05ed6a44530c13afd03452139d813b80eb929c8", func := "haywain/haywainlaw11.ViewAsks", spec := "viewAsks", apart := false, narrowed := true }
def ViewAsksUptoSaid : Prop := viewAsksUptoRow.holds Try.pinned (OpenSpec.upto viewAsksSpec)

/-- 'haywainlaw11.ViewPlays', WHERE WHAT IT READS IS OF BULK AT MOST 1048576: true; the input reads as it did. -/
def viewPlaysUptoRow : OpenClaim := { program := "ytgfaejkgkhdihaa", sum := "7b5a072da03b84489480851cf05ed6a44530c13afd03452139d813b80eb929c8", func := "haywain/haywainlaw11.ViewPlays", spec := "viewPlays", apart := false, narrowed := true }
def ViewPlaysUptoSaid : Prop := viewPlaysUptoRow.holds Try.pinned (OpenSpec.upto viewPlaysSpec)

/-- 'haywainlaw11.ViewRises', WHERE WHAT IT READS IS OF BULK AT MOST 1048576: true; the input reads as it did. -/
def viewRisesUptoRow : OpenClaim := { program := "ytgfaejkgkhdihaa", sum := "7b5a072da03b84489480851cf05ed6a44530c13afd03452139d813b80eb929c8", func := "haywain/haywainlaw11.ViewRises", spec := "viewRises", apart := false, narrowed := true }
def ViewRisesUptoSaid : Prop := viewRisesUptoRow.holds Try.pinned (OpenSpec.upto viewRisesSpec)

/-- 'haywainlaw11.ViewBack', WHERE WHAT IT READS IS OF BULK AT MOST 1048576: true; the input reads as it did. -/
def viewBackUptoRow : OpenClaim := { program := "ytgfaejkgkhdihaa", sum := "7b5a072da03b84489480851cf05ed6a44530c13afd03452139d813b80eb929c8", func := "haywain/haywainlaw11.ViewBack", spec := "viewBack", apart := false, narrowed := true }
def ViewBackUptoSaid : Prop := viewBackUptoRow.holds Try.pinned (OpenSpec.upto viewBackSpec)

/-- 'haywainlaw11.ViewFences', WHERE WHAT IT READS IS OF BULK AT MOST 1048576: true; the input reads as it did. -/
def viewFencesUptoRow : OpenClaim := { program := "ytgfaejkgkhdihaa", sum := "7b5a072da03b84489480851cf05ed6a44530c13afd03452139d813b80eb929c8", func := "haywain/haywainlaw11.ViewFences", spec := "viewFences", apart := false, narrowed := true }
def ViewFencesUptoSaid : Prop := viewFencesUptoRow.holds Try.pinned (OpenSpec.upto viewFencesSpec)

/-- 'haywainlaw11.ViewIncs', WHERE WHAT IT READS IS OF BULK AT MOST 1048576: true; the input reads as it did. -/
def viewIncsUptoRow : OpenClaim := { program := "ytgfaejkgkhdihaa", sum := "7b5a072da03b84489480851cf05ed6a44530c13afd03452139d813b80eb929c8", func := "haywain/haywainlaw11.ViewIncs", spec := "viewIncs", apart := false, narrowed := true }
def ViewIncsUptoSaid : Prop := viewIncsUptoRow.holds Try.pinned (OpenSpec.upto viewIncsSpec)

end Rows
end Go.Proofs.Ytgfaejkgkhdihaa
