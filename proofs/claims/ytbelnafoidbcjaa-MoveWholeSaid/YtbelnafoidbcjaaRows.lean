/-
  No cell of these rows narrows 'for every input' (looked for: loops, veiled, ifaces, maps, wideKeys, modest, calm, conditions, laid).
  DERIVED. THE GIVEN ROWS OF THIS SEAT. 3 by the template 'for every input the law returns true; each argument reads behind the call as it read before'; 0 by the template 'total and deterministic' (their statements: YtbelnafoidbcjaaTotals.lean).
  GIVEN WITH THE SEED: the statements are not yours to turn. If you find one false, say at which input.
  Laid BY PROGRAM, IN A SANDBOX (cutbox-rows.mjs): the forced cells as the released guide's own fill.sh prints them over the translation 91334bef3c30fd81… (all of the seat's roots in one cut). By AI agents, Wed Nov 11 2026. No macro, syntax, notation, axiom, sorry.
-/
import Derived.Test.YtbelnafoidbcjaaChecked
import GoSem.Claim
import GoSem.ClaimJoined
import GoSem.ClaimMapViews
import Derived.JoinedTies
import Derived.KernelRfl
namespace Go.Proofs.Ytbelnafoidbcjaa
/- THE CELL 'sum', in the pinned program and in every row, IS THE sha256 OF THE DUMP (.gsa) THAT YtbelnafoidbcjaaProg.lean LOADS. Nothing in Lean hashes anything: it is a label: what it is worth is what the hold of that sum in a sandbox is worth. -/
noncomputable def Try.pinned : Pinned := { name := "ytbelnafoidbcjaa", sum := "91334bef3c30fd81ba9a4d847217a0e68b8516f4ea1adc79fb1d7de4d31b5473", checked := Try.checked }
namespace Rows
def none {H : Type} : Left H := { results := [], args := [] }

/-- 'haywainlaw18.MoveBegins': WHATEVER THE INPUT: true; the input reads as it did. -/
def moveBeginsSpec : ChangeSpec := { name := "moveBegins", fn := fun _ => fun
  | [d1, d2, d3] => { results := [.lit (.bool true)], args := [d1, d2, d3] }
  | _ => none }
def moveBeginsRow : OpenClaim := { program := "ytbelnafoidbcjaa", sum := "91334bef3c30fd81ba9a4d847217a0e68b8516f4ea1adc79fb1d7de4d31b5473", func := "haywain/haywainlaw18.MoveBegins", spec := "moveBegins", unfollowed := true, recurses := true, apart := false }
def MoveBeginsSaid : Prop := moveBeginsRow.holds Try.pinned (OpenSpec.ofChange moveBeginsSpec)

/-- ITS FALSE NEIGHBOUR: 'it returns false'. Refute it at one input. -/
def moveBeginsWrong : ChangeSpec := { name := "moveBegins", fn := fun _ => fun
  | [d1, d2, d3] => { results := [.lit (.bool false)], args := [d1, d2, d3] }
  | _ => none }
def MoveBeginsWrongFalsely : Prop := moveBeginsRow.holds Try.pinned (OpenSpec.ofChange moveBeginsWrong)

/-- 'haywainlaw18.MoveOwners': WHATEVER THE INPUT: true; the input reads as it did. -/
def moveOwnersSpec : ChangeSpec := { name := "moveOwners", fn := fun _ => fun
  | [d1, d2] => { results := [.lit (.bool true)], args := [d1, d2] }
  | _ => none }
def moveOwnersRow : OpenClaim := { program := "ytbelnafoidbcjaa", sum := "91334bef3c30fd81ba9a4d847217a0e68b8516f4ea1adc79fb1d7de4d31b5473", func := "haywain/haywainlaw18.MoveOwners", spec := "moveOwners", unfollowed := true, recurses := true, apart := false }
def MoveOwnersSaid : Prop := moveOwnersRow.holds Try.pinned (OpenSpec.ofChange moveOwnersSpec)

/-- ITS FALSE NEIGHBOUR: 'it returns false'. Refute it at one input. -/
def moveOwnersWrong : ChangeSpec := { name := "moveOwners", fn := fun _ => fun
  | [d1, d2] => { results := [.lit (.bool false)], args := [d1, d2] }
  | _ => none }
def MoveOwnersWrongFalsely : Prop := moveOwnersRow.holds Try.pinned (OpenSpec.ofChange moveOwnersWrong)

/-- 'haywainlaw18.MoveWhole': WHATEVER THE INPUT: true; the input reads as it did. -/
def moveWholeSpec : ChangeSpec := { name := "moveWhole", fn := fun _ => fun
  | [d1, d2, d3, d4] => { results := [.lit (.bool true)], args := [d1, d2, d3, d4] }
  | _ => none }
def moveWholeRow : OpenClaim := { program := "ytbelnafoidbcjaa", sum := "91334bef3c30fd81ba9a4d847217a0e68b8516f4ea1adc79fb1d7de4d31b5473", func := "haywain/haywainlaw18.MoveWhole", spec := "moveWhole", unfollowed := true, recurses := true, apart := false }
def MoveWholeSaid : Prop := moveWholeRow.holds Try.pinned (OpenSpec.ofChange moveWholeSpec)

/-- ITS FALSE NEIGHBOUR: 'it returns false'. Refute it at one input. -/
def moveWholeWrong : ChangeSpec := { name := "moveWhole", fn := fun _ => fun
  | [d1, d2, d3, d4] => { results := [.lit (.bool false)], args := [d1, d2, d3, d4] }
  | _ => none }
def MoveWholeWrongFalsely : Prop := moveWholeRow.holds Try.pinned (OpenSpec.ofChange moveWholeWrong)

/- THE SECOND FORM. 'bulk': how many values and letters a reading holds, each counted each time it is reached (what is shared counts as often as it is met; a slice's spare places count too). A statement '..UptoSaid' is the law's where the arguments, and the package variables that the reading takes, are together of bulk at most 1048576: NARROWER than '..Said'. Prove '..Said' where nothing that the law and all that it calls make is longer than what came in: it says more and counts as full. Else prove '..UptoSaid'. A law counts once. -/
mutual
def uptoBulk {H : Type} : DataW H → Nat
  | .lit (.string bytes) => bytes.length + 1
  | .lit _ => 1
  | .nil => 1
  | .ptr d => uptoBulk d + 1
  | .slice elems spare => uptoBulkAll elems + uptoBulkAll spare + 1
  | .agg parts => uptoBulkAll parts + 1
  | .iface _ d => uptoBulk d + 1
  | .map entries => uptoBulkEntries entries + 1
  | .held _ => 1
def uptoBulkAll {H : Type} : List (DataW H) → Nat
  | [] => 0
  | d :: r => uptoBulk d + uptoBulkAll r
def uptoBulkEntries {H : Type} : List (Lit × DataW H) → Nat
  | [] => 0
  | x :: r => uptoBulkEntry x + uptoBulkEntries r
def uptoBulkEntry {H : Type} : Lit × DataW H → Nat
  | (.string bytes, d) => bytes.length + uptoBulk d + 1
  | (_, d) => uptoBulk d + 1
 end
def uptoSmall : (H : Type) → List (DataW H) → Bool := fun _ ds => decide (uptoBulkAll ds ≤ 1048576)
def OpenSpec.upto (s : _root_.Go.ChangeSpec) : _root_.Go.OpenSpec := { _root_.Go.OpenSpec.ofChange s with cond := some uptoSmall }

/-- 'haywainlaw18.MoveBegins', WHERE WHAT IT READS IS OF BULK AT MOST 1048576: true; the input reads as it did. -/
def moveBeginsUptoRow : OpenClaim := { program := "ytbelnafoidbcjaa", sum := "91334bef3c30fd81ba9a4d847217a0e68b8516f4ea1adc79fb1d7de4d31b5473", func := "haywain/haywainlaw18.MoveBegins", spec := "moveBegins", unfollowed := true, recurses := true, apart := false, narrowed := true }
def MoveBeginsUptoSaid : Prop := moveBeginsUptoRow.holds Try.pinned (OpenSpec.upto moveBeginsSpec)

/-- 'haywainlaw18.MoveOwners', WHERE WHAT IT READS IS OF BULK AT MOST 1048576: true; the input reads as it did. -/
def moveOwnersUptoRow : OpenClaim := { program := "ytbelnafoidbcjaa", sum := "91334bef3c30fd81ba9a4d847217a0e68b8516f4ea1adc79fb1d7de4d31b5473", func := "haywain/haywainlaw18.MoveOwners", spec := "moveOwners", unfollowed := true, recurses := true, apart := false, narrowed := true }
def MoveOwnersUptoSaid : Prop := moveOwnersUptoRow.holds Try.pinned (OpenSpec.upto moveOwnersSpec)

/-- 'haywainlaw18.MoveWhole', WHERE WHAT IT READS IS OF BULK AT MOST 1048576: true; the input reads as it did. -/
def moveWholeUptoRow : OpenClaim := { program := "ytbelnafoidbcjaa", sum := "91334bef3c30fd81ba9a4d847217a0e68b8516f4ea1adc79fb1d7de4d31b5473", func := "haywain/haywainlaw18.MoveWhole", spec := "moveWhole", unfollowed := true, recurses := true, apart := false, narrowed := true }
def MoveWholeUptoSaid : Prop := moveWholeUptoRow.holds Try.pinned (OpenSpec.upto moveWholeSpec)

end Rows
end Go.Proofs.Ytbelnafoidbcjaa
