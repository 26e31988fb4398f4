/-
  No cell of these rows narrows 'for every input' (looked for: loops, veiled, ifaces, maps, wideKeys, modest, calm, conditions, laid).
  DERIVED. THE GIVEN ROWS OF THIS SEAT. 6 by the template 'for every input the law returns true; each argument reads behind the call as it read before'; 0 by the template 'total and deterministic' (their statements: YtaanojcdmojgbaaTotals.lean).
  GIVEN WITH THE SEED: the statements are not yours to turn. If you find one false, say at which input.
  Laid BY PROGRAM, IN A SANDBOX (cutbox-rows.mjs): the forced cells as the released guide's own fill.sh prints them over the translation b958b559e796fa6f… (all of the seat's roots in one cut). By AI agents, Wed Nov 11 2026. No macro, syntax, notation, axiom, sorry.
-/
import Derived.Test.YtaanojcdmojgbaaChecked
import GoSem.Claim
import GoSem.ClaimJoined
import GoSem.ClaimMapViews
import Derived.JoinedTies
import Derived.KernelRfl
namespace Go.Proofs.Ytaanojcdmojgbaa
/- THE CELL 'sum', in the pinned program and in every row, IS THE sha256 OF THE DUMP (.gsa) THAT YtaanojcdmojgbaaProg.lean LOADS. Nothing in Lean hashes anything: it is a label: what it is worth is what the hold of that sum in a sandbox is worth. -/
noncomputable def Try.pinned : Pinned := { name := "ytaanojcdmojgbaa", sum := "b958b559e796fa6f5fc9ca51e597f68d1f9f33b98e40723d3261db113b574231", checked := Try.checked }
namespace Rows
def none {H : Type} : Left H := { results := [], args := [] }

/-- 'haywainlaw17.RouteRights': WHATEVER THE INPUT: true; the input reads as it did. -/
def routeRightsSpec : ChangeSpec := { name := "routeRights", fn := fun _ => fun
  | [d1, d2] => { results := [.lit (.bool true)], args := [d1, d2] }
  | _ => none }
def routeRightsRow : OpenClaim := { program := "ytaanojcdmojgbaa", sum := "b958b559e796fa6f5fc9ca51e597f68d1f9f33b98e40723d3261db113b574231", func := "haywain/haywainlaw17.RouteRights", spec := "routeRights", apart := false }
def RouteRightsSaid : Prop := routeRightsRow.holds Try.pinned (OpenSpec.ofChange routeRightsSpec)

/-- ITS FALSE NEIGHBOUR: 'it returns false'. Refute it at one input. -/
def routeRightsWrong : ChangeSpec := { name := "routeRights", fn := fun _ => fun
  | [d1, d2] => { results := [.lit (.bool false)], args := [d1, d2] }
  | _ => none }
def RouteRightsWrongFalsely : Prop := routeRightsRow.holds Try.pinned (OpenSpec.ofChange routeRightsWrong)

/-- 'haywainlaw17.RouteTos': WHATEVER THE INPUT: true; the input reads as it did. -/
def routeTosSpec : ChangeSpec := { name := "routeTos", fn := fun _ => fun
  | [d1, d2] => { results := [.lit (.bool true)], args := [d1, d2] }
  | _ => none }
def routeTosRow : OpenClaim := { program := "ytaanojcdmojgbaa", sum := "b958b559e796fa6f5fc9ca51e597f68d1f9f33b98e40723d3261db113b574231", func := "haywain/haywainlaw17.RouteTos", spec := "routeTos", apart := false }
def RouteTosSaid : Prop := routeTosRow.holds Try.pinned (OpenSpec.ofChange routeTosSpec)

/-- ITS FALSE NEIGHBOUR: 'it returns false'. Refute it at one input. -/
def routeTosWrong : ChangeSpec := { name := "routeTos", fn := fun _ => fun
  | [d1, d2] => { results := [.lit (.bool false)], args := [d1, d2] }
  | _ => none }
def RouteTosWrongFalsely : Prop := routeTosRow.holds Try.pinned (OpenSpec.ofChange routeTosWrong)

/-- 'haywainlaw17.RouteSays': WHATEVER THE INPUT: true; the input reads as it did. -/
def routeSaysSpec : ChangeSpec := { name := "routeSays", fn := fun _ => fun
  | [d1, d2, d3, d4] => { results := [.lit (.bool true)], args := [d1, d2, d3, d4] }
  | _ => none }
def routeSaysRow : OpenClaim := { program := "ytaanojcdmojgbaa", sum := "b958b559e796fa6f5fc9ca51e597f68d1f9f33b98e40723d3261db113b574231", func := "haywain/haywainlaw17.RouteSays", spec := "routeSays", apart := false }
def RouteSaysSaid : Prop := routeSaysRow.holds Try.pinned (OpenSpec.ofChange routeSaysSpec)

/-- ITS FALSE NEIGHBOUR: 'it returns false'. Refute it at one input. -/
def routeSaysWrong : ChangeSpec := { name := "routeSays", fn := fun _ => fun
  | [d1, d2, d3, d4] => { results := [.lit (.bool false)], args := [d1, d2, d3, d4] }
  | _ => none }
def RouteSaysWrongFalsely : Prop := routeSaysRow.holds Try.pinned (OpenSpec.ofChange routeSaysWrong)

/-- 'haywainlaw17.RouteOne': WHATEVER THE INPUT: true; the input reads as it did. -/
def routeOneSpec : ChangeSpec := { name := "routeOne", fn := fun _ => fun
  | [d1, d2, d3] => { results := [.lit (.bool true)], args := [d1, d2, d3] }
  | _ => none }
def routeOneRow : OpenClaim := { program := "ytaanojcdmojgbaa", sum := "b958b559e796fa6f5fc9ca51e597f68d1f9f33b98e40723d3261db113b574231", func := "haywain/haywainlaw17.RouteOne", spec := "routeOne", apart := false }
def RouteOneSaid : Prop := routeOneRow.holds Try.pinned (OpenSpec.ofChange routeOneSpec)

/-- ITS FALSE NEIGHBOUR: 'it returns false'. Refute it at one input. -/
def routeOneWrong : ChangeSpec := { name := "routeOne", fn := fun _ => fun
  | [d1, d2, d3] => { results := [.lit (.bool false)], args := [d1, d2, d3] }
  | _ => none }
def RouteOneWrongFalsely : Prop := routeOneRow.holds Try.pinned (OpenSpec.ofChange routeOneWrong)

/-- 'haywainlaw17.RouteAll': WHATEVER THE INPUT: true; the input reads as it did. -/
def routeAllSpec : ChangeSpec := { name := "routeAll", fn := fun _ => fun
  | [d1, d2] => { results := [.lit (.bool true)], args := [d1, d2] }
  | _ => none }
def routeAllRow : OpenClaim := { program := "ytaanojcdmojgbaa", sum := "b958b559e796fa6f5fc9ca51e597f68d1f9f33b98e40723d3261db113b574231", func := "haywain/haywainlaw17.RouteAll", spec := "routeAll", apart := false }
def RouteAllSaid : Prop := routeAllRow.holds Try.pinned (OpenSpec.ofChange routeAllSpec)

/-- ITS FALSE NEIGHBOUR: 'it returns false'. Refute it at one input. -/
def routeAllWrong : ChangeSpec := { name := "routeAll", fn := fun _ => fun
  | [d1, d2] => { results := [.lit (.bool false)], args := [d1, d2] }
  | _ => none }
def RouteAllWrongFalsely : Prop := routeAllRow.holds Try.pinned (OpenSpec.ofChange routeAllWrong)

/-- 'haywainlaw17.RouteNewer': WHATEVER THE INPUT: true; the input reads as it did. -/
def routeNewerSpec : ChangeSpec := { name := "routeNewer", fn := fun _ => fun
  | [d1, d2, d3] => { results := [.lit (.bool true)], args := [d1, d2, d3] }
  | _ => none }
def routeNewerRow : OpenClaim := { program := "ytaanojcdmojgbaa", sum := "b958b559e796fa6f5fc9ca51e597f68d1f9f33b98e40723d3261db113b574231", func := "haywain/haywainlaw17.RouteNewer", spec := "routeNewer", apart := false }
def RouteNewerSaid : Prop := routeNewerRow.holds Try.pinned (OpenSpec.ofChange routeNewerSpec)

/-- ITS FALSE NEIGHBOUR: 'it returns false'. Refute it at one input. -/
def routeNewerWrong : ChangeSpec := { name := "routeNewer", fn := fun _ => fun
  | [d1, d2, d3] => { results := [.lit (.bool false)], args := [d1, d2, d3] }
  | _ => none }
def RouteNewerWrongFalsely : Prop := routeNewerRow.holds Try.pinned (OpenSpec.ofChange routeNewerWrong)

/- THE SECOND FORM. 'bulk': how many values and letters a reading holds, each counted each time it is reached (what is shared counts as often as it is met; a slice's spare places count too). A statement '..UptoSaid' is the law's where the arguments, and the package variables that the reading takes, are together of bulk at most 1048576: NARROWER than '..Said'. Prove '..Said' where nothing that the law and all that it calls make is longer than what came in: it says more and counts as full. Else prove '..UptoSaid'. A law counts once. -/
mutual
def uptoBulk {H : Type} : DataW H → Nat
  | .lit (.string bytes) => bytes.length + 1
  | .lit _ => 1
  | .nil => 1
  | .ptr d => uptoBulk d + 1
  | .slice elems spare => uptoBulkAll elems + uptoBulkAll spare + 1
  | .agg parts => uptoBulkAll parts + 1
  | .iface _ d => uptoBulk d + 1
  | .map entries => uptoBulkEntries entries + 1
  | .held _ => 1
def uptoBulkAll {H : Type} : List (DataW H) → Nat
  | [] => 0
  | d :: r => uptoBulk d + uptoBulkAll r
def uptoBulkEntries {H : Type} : List (Lit × DataW H) → Nat
  | [] => 0
  | x :: r => uptoBulkEntry x + uptoBulkEntries r
def uptoBulkEntry {H : Type} : Lit × DataW H → Nat
  | (.string bytes, d) => bytes.length + uptoBulk d + 1
  | (_, d) => uptoBulk d + 1
 end
def uptoSmall : (H : Type) → List (DataW H) → Bool := fun _ ds => decide (uptoBulkAll ds ≤ 1048576)
def OpenSpec.upto (s : _root_.Go.ChangeSpec) : _root_.Go.OpenSpec := { _root_.Go.OpenSpec.ofChange s with cond := some uptoSmall }

/-- 'haywainlaw17.RouteRights', WHERE WHAT IT READS IS OF BULK AT MOST 1048576: true; the input reads as it did. -/
def routeRightsUptoRow : OpenClaim := { program := "ytaanojcdmojgbaa", sum := "b958b559e796fa6f5fc9ca51e597f68d1f9f33b98e40723d3261db113b574231", func := "haywain/haywainlaw17.RouteRights", spec := "routeRights", apart := false, narrowed := true }
def RouteRightsUptoSaid : Prop := routeRightsUptoRow.holds Try.pinned (OpenSpec.upto routeRightsSpec)

/-- 'haywainlaw17.RouteTos', WHERE WHAT IT READS IS OF BULK AT MOST 1048576: true; the input reads as it did. -/
def routeTosUptoRow : OpenClaim := { program := "ytaanojcdmojgbaa", sum := "b958b559e796fa6f5fc9ca51e597f68d1f9f33b98e40723d3261db113b574231", func := "haywain/haywainlaw17.RouteTos", spec := "routeTos", apart := false, narrowed := true }
def RouteTosUptoSaid : Prop := routeTosUptoRow.holds Try.pinned (OpenSpec.upto routeTosSpec)

/-- 'haywainlaw17.RouteSays', WHERE WHAT IT READS IS OF BULK AT MOST 1048576: true; the input reads as it did. -/
def routeSaysUptoRow : OpenClaim := { program := "ytaanojcdmojgbaa", sum := "b958b559e796fa6f5fc9ca51e597f68d1f9f33b98e40723d3261db113b574231", func := "haywain/haywainlaw17.RouteSays", spec := "routeSays", apart := false, narrowed := true }
def RouteSaysUptoSaid : Prop := routeSaysUptoRow.holds Try.pinned (OpenSpec.upto routeSaysSpec)

/-- 'haywainlaw17.RouteOne', WHERE WHAT IT READS IS OF BULK AT MOST 1048576: true; the input reads as it did. -/
def routeOneUptoRow : OpenClaim := { program := "ytaanojcdmojgbaa", sum := "b958b559e796fa6f5fc9ca51e597f68d1f9f33b98e40723d3261db113b574231", func := "haywain/haywainlaw17.RouteOne", spec := "routeOne", apart := false, narrowed := true }
def RouteOneUptoSaid : Prop := routeOneUptoRow.holds Try.pinned (OpenSpec.upto routeOneSpec)

/-- 'haywainlaw17.RouteAll', WHERE WHAT IT READS IS OF BULK AT MOST 1048576: true; the input reads as it did. -/
def routeAllUptoRow : OpenClaim := { program := "ytaanojcdmojgbaa", sum := "b958b559e796fa6f5fc9ca51e597f68d1f9f33b98e40723d3261db113b574231", func := "haywain/haywainlaw17.RouteAll", spec := "routeAll", apart := false, narrowed := true }
def RouteAllUptoSaid : Prop := routeAllUptoRow.holds Try.pinned (OpenSpec.upto routeAllSpec)

/-- 'haywainlaw17.RouteNewer', WHERE WHAT IT READS IS OF BULK AT MOST 1048576: true; the input reads as it did. -/
def routeNewerUptoRow : OpenClaim := { program := "ytaanojcdmojgbaa", sum := "b958b559e796fa6f5fc9ca51e597f68d1f9f33b98e40723d3261db113b574231", func := "haywain/haywainlaw17.RouteNewer", spec := "routeNewer", apart := false, narrowed := true }
def RouteNewerUptoSaid : Prop := routeNewerUptoRow.holds Try.pinned (OpenSpec.upto routeNewerSpec)

end Rows
end Go.Proofs.Ytaanojcdmojgbaa
