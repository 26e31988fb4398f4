/-
  No cell of these rows narrows 'for every input' (looked for: loops, veiled, ifaces, maps, wideKeys, modest, calm, conditions, laid).
  DERIVED. THE GIVEN ROWS OF THIS SEAT. 6 by the template 'for every input the law returns true; each argument reads behind the call as it read before'; 0 by the template 'total and deterministic' (their statements: YtpgjcgoonlobeaaTotals.lean).
  GIVEN WITH THE SEED: the statements are not yours to turn. If you find one false, say at which input.
  Laid BY PROGRAM, IN A SANDBOX (cutbox-rows.mjs): the forced cells as the released guide's own fill.sh prints them over the translation 96ba0383461ece47… (all of the seat's roots in one cut). By AI agents, Wed Nov 11 2026. No macro, syntax, notation, axiom, sorry.
-/
import Derived.Test.YtpgjcgoonlobeaaChecked
import GoSem.Claim
import GoSem.ClaimJoined
import GoSem.ClaimMapViews
import Derived.JoinedTies
import Derived.KernelRfl
namespace Go.Proofs.Ytpgjcgoonlobeaa
/- THE CELL 'sum', in the pinned program and in every row, IS THE sha256 OF THE DUMP (.gsa) THAT YtpgjcgoonlobeaaProg.lean LOADS. Nothing in Lean hashes anything: it is a label: what it is worth is what the hold of that sum in a sandbox is worth. -/
noncomputable def Try.pinned : Pinned := { name := "ytpgjcgoonlobeaa", sum := "96ba0383461ece47e22f13123d889115790eb2d81f7b88b66c4dc1c62e54cc51", checked := Try.checked }
namespace Rows
def none {H : Type} : Left H := { results := [], args := [] }

/-- 'haywainlaw09.RingMixes': WHATEVER THE INPUT: true; the input reads as it did. -/
def ringMixesSpec : ChangeSpec := { name := "ringMixes", fn := fun _ => fun
  | [d] => { results := [.lit (.bool true)], args := [d] }
  | _ => none }
def ringMixesRow : OpenClaim := { program := "ytpgjcgoonlobeaa", sum := "96ba0383461ece47e22f13123d889115790eb2d81f7b88b66c4dc1c62e54cc51", func := "haywain/haywainlaw09.RingMixes", spec := "ringMixes", apart := false }
def RingMixesSaid : Prop := ringMixesRow.holds Try.pinned (OpenSpec.ofChange ringMixesSpec)

/-- ITS FALSE NEIGHBOUR: 'it returns false'. Refute it at one input. -/
def ringMixesWrong : ChangeSpec := { name := "ringMixes", fn := fun _ => fun
  | [d] => { results := [.lit (.bool false)], args := [d] }
  | _ => none }
def RingMixesWrongFalsely : Prop := ringMixesRow.holds Try.pinned (OpenSpec.ofChange ringMixesWrong)

/-- 'haywainlaw09.RingPlaces': WHATEVER THE INPUT: true; the input reads as it did. -/
def ringPlacesSpec : ChangeSpec := { name := "ringPlaces", fn := fun _ => fun
  | [d1, d2, d3] => { results := [.lit (.bool true)], args := [d1, d2, d3] }
  | _ => none }
def ringPlacesRow : OpenClaim := { program := "ytpgjcgoonlobeaa", sum := "96ba0383461ece47e22f13123d889115790eb2d81f7b88b66c4dc1c62e54cc51", func := "haywain/haywainlaw09.RingPlaces", spec := "ringPlaces", apart := false }
def RingPlacesSaid : Prop := ringPlacesRow.holds Try.pinned (OpenSpec.ofChange ringPlacesSpec)

/-- ITS FALSE NEIGHBOUR: 'it returns false'. Refute it at one input. -/
def ringPlacesWrong : ChangeSpec := { name := "ringPlaces", fn := fun _ => fun
  | [d1, d2, d3] => { results := [.lit (.bool false)], args := [d1, d2, d3] }
  | _ => none }
def RingPlacesWrongFalsely : Prop := ringPlacesRow.holds Try.pinned (OpenSpec.ofChange ringPlacesWrong)

/-- 'haywainlaw09.RingOwns': WHATEVER THE INPUT: true; the input reads as it did. -/
def ringOwnsSpec : ChangeSpec := { name := "ringOwns", fn := fun _ => fun
  | [d1, d2, d3] => { results := [.lit (.bool true)], args := [d1, d2, d3] }
  | _ => none }
def ringOwnsRow : OpenClaim := { program := "ytpgjcgoonlobeaa", sum := "96ba0383461ece47e22f13123d889115790eb2d81f7b88b66c4dc1c62e54cc51", func := "haywain/haywainlaw09.RingOwns", spec := "ringOwns", apart := false }
def RingOwnsSaid : Prop := ringOwnsRow.holds Try.pinned (OpenSpec.ofChange ringOwnsSpec)

/-- ITS FALSE NEIGHBOUR: 'it returns false'. Refute it at one input. -/
def ringOwnsWrong : ChangeSpec := { name := "ringOwns", fn := fun _ => fun
  | [d1, d2, d3] => { results := [.lit (.bool false)], args := [d1, d2, d3] }
  | _ => none }
def RingOwnsWrongFalsely : Prop := ringOwnsRow.holds Try.pinned (OpenSpec.ofChange ringOwnsWrong)

/-- 'haywainlaw09.RingTotal': WHATEVER THE INPUT: true; the input reads as it did. -/
def ringTotalSpec : ChangeSpec := { name := "ringTotal", fn := fun _ => fun
  | [d1, d2] => { results := [.lit (.bool true)], args := [d1, d2] }
  | _ => none }
def ringTotalRow : OpenClaim := { program := "ytpgjcgoonlobeaa", sum := "96ba0383461ece47e22f13123d889115790eb2d81f7b88b66c4dc1c62e54cc51", func := "haywain/haywainlaw09.RingTotal", spec := "ringTotal", apart := false }
def RingTotalSaid : Prop := ringTotalRow.holds Try.pinned (OpenSpec.ofChange ringTotalSpec)

/-- ITS FALSE NEIGHBOUR: 'it returns false'. Refute it at one input. -/
def ringTotalWrong : ChangeSpec := { name := "ringTotal", fn := fun _ => fun
  | [d1, d2] => { results := [.lit (.bool false)], args := [d1, d2] }
  | _ => none }
def RingTotalWrongFalsely : Prop := ringTotalRow.holds Try.pinned (OpenSpec.ofChange ringTotalWrong)

/-- 'haywainlaw09.RingComes': WHATEVER THE INPUT: true; the input reads as it did. -/
def ringComesSpec : ChangeSpec := { name := "ringComes", fn := fun _ => fun
  | [d1, d2] => { results := [.lit (.bool true)], args := [d1, d2] }
  | _ => none }
def ringComesRow : OpenClaim := { program := "ytpgjcgoonlobeaa", sum := "96ba0383461ece47e22f13123d889115790eb2d81f7b88b66c4dc1c62e54cc51", func := "haywain/haywainlaw09.RingComes", spec := "ringComes", apart := false }
def RingComesSaid : Prop := ringComesRow.holds Try.pinned (OpenSpec.ofChange ringComesSpec)

/-- ITS FALSE NEIGHBOUR: 'it returns false'. Refute it at one input. -/
def ringComesWrong : ChangeSpec := { name := "ringComes", fn := fun _ => fun
  | [d1, d2] => { results := [.lit (.bool false)], args := [d1, d2] }
  | _ => none }
def RingComesWrongFalsely : Prop := ringComesRow.holds Try.pinned (OpenSpec.ofChange ringComesWrong)

/-- 'haywainlaw09.RingGoes': WHATEVER THE INPUT: true; the input reads as it did. -/
def ringGoesSpec : ChangeSpec := { name := "ringGoes", fn := fun _ => fun
  | [d1, d2] => { results := [.lit (.bool true)], args := [d1, d2] }
  | _ => none }
def ringGoesRow : OpenClaim := { program := "ytpgjcgoonlobeaa", sum := "96ba0383461ece47e22f13123d889115790eb2d81f7b88b66c4dc1c62e54cc51", func := "haywain/haywainlaw09.RingGoes", spec := "ringGoes", apart := false }
def RingGoesSaid : Prop := ringGoesRow.holds Try.pinned (OpenSpec.ofChange ringGoesSpec)

/-- ITS FALSE NEIGHBOUR: 'it returns false'. Refute it at one input. -/
def ringGoesWrong : ChangeSpec := { name := "ringGoes", fn := fun _ => fun
  | [d1, d2] => { results := [.lit (.bool false)], args := [d1, d2] }
  | _ => none }
def RingGoesWrongFalsely : Prop := ringGoesRow.holds Try.pinned (OpenSpec.ofChange ringGoesWrong)

/- THE SECOND FORM. 'bulk': how many values and letters a reading holds, each counted each time it is reached (what is shared counts as often as it is met; a slice's spare places count too). A statement '..UptoSaid' is the law's where the arguments, and the package variables that the reading takes, are together of bulk at most 1048576: NARROWER than '..Said'. Prove '..Said' where nothing that the law and all that it calls make is longer than what came in: it says more and counts as full. Else prove '..UptoSaid'. A law counts once. -/
mutual
def uptoBulk {H : Type} : DataW H → Nat
  | .lit (.string bytes) => bytes.length + 1
  | .lit _ => 1
  | .nil => 1
  | .ptr d => uptoBulk d + 1
  | .slice elems spare => uptoBulkAll elems + uptoBulkAll spare + 1
  | .agg parts => uptoBulkAll parts + 1
  | .iface _ d => uptoBulk d + 1
  | .map entries => uptoBulkEntries entries + 1
  | .held _ => 1
def uptoBulkAll {H : Type} : List (DataW H) → Nat
  | [] => 0
  | d :: r => uptoBulk d + uptoBulkAll r
def uptoBulkEntries {H : Type} : List (Lit × DataW H) → Nat
  | [] => 0
  | x :: r => uptoBulkEntry x + uptoBulkEntries r
def uptoBulkEntry {H : Type} : Lit × DataW H → Nat
  | (.string bytes, d) => bytes.length + uptoBulk d + 1
  | (_, d) => uptoBulk d + 1
 end
def uptoSmall : (H : Type) → List (DataW H) → Bool := fun _ ds => decide (uptoBulkAll ds ≤ 1048576)
def OpenSpec.upto (s : _root_.Go.ChangeSpec) : _root_.Go.OpenSpec := { _root_.Go.OpenSpec.ofChange s with cond := some uptoSmall }

/-- 'haywainlaw09.RingMixes', WHERE WHAT IT READS IS OF BULK AT MOST 1048576: true; the input reads as it did. -/
def ringMixesUptoRow : OpenClaim := { program := "ytpgjcgoonlobeaa", sum := "96ba0383461ece47e22f13123d889115790eb2d81f7b88b66c4dc1c62e54cc51", func := "haywain/haywainlaw09.RingMixes", spec := "ringMixes", apart := false, narrowed := true }
def RingMixesUptoSaid : Prop := ringMixesUptoRow.holds Try.pinned (OpenSpec.upto ringMixesSpec)

/-- 'haywainlaw09.RingPlaces', WHERE WHAT IT READS IS OF BULK AT MOST 1048576: true; the input reads as it did. -/
def ringPlacesUptoRow : OpenClaim := { program := "ytpgjcgoonlobeaa", sum := "96ba0383461ece47e22f13123d889115790eb2d81f7b88b66c4dc1c62e54cc51", func := "haywain/haywainlaw09.RingPlaces", spec := "ringPlaces", apart := false, narrowed := true }
def RingPlacesUptoSaid : Prop := ringPlacesUptoRow.holds Try.pinned (OpenSpec.upto ringPlacesSpec)

/-- 'haywainlaw09.RingOwns', WHERE WHAT IT READS IS OF BULK AT MOST 1048576: true; the input reads as it did. -/
def ringOwnsUptoRow : OpenClaim := { program := "ytpgjcgoonlobeaa", sum := "96ba0383461ece47e22f13123d889115790eb2d81f7b88b66c4dc1c62e54cc51", func := "haywain/haywainlaw09.RingOwns", spec := "ringOwns", apart := false, narrowed := true }
def RingOwnsUptoSaid : Prop := ringOwnsUptoRow.holds Try.pinned (OpenSpec.upto ringOwnsSpec)

/-- 'haywainlaw09.RingTotal', WHERE WHAT IT READS IS OF BULK AT MOST 1048576: true; the input reads as it did. -/
def ringTotalUptoRow : OpenClaim := { program := "ytpgjcgoonlobeaa", sum := "96ba0383461ece47e22f13123d889115790eb2d81f7b88b66c4dc1c62e54cc51", func := "haywain/haywainlaw09.RingTotal", spec := "ringTotal", apart := false, narrowed := true }
def RingTotalUptoSaid : Prop := ringTotalUptoRow.holds Try.pinned (OpenSpec.upto ringTotalSpec)

/-- 'haywainlaw09.RingComes', WHERE WHAT IT READS IS OF BULK AT MOST 1048576: true; the input reads as it did. -/
def ringComesUptoRow : OpenClaim := { program := "ytpgjcgoonlobeaa", sum := "96ba0383461ece47e22f13123d889115790eb2d81f7b88b66c4dc1c62e54cc51", func := "haywain/haywainlaw09.RingComes", spec := "ringComes", apart := false, narrowed := true }
def RingComesUptoSaid : Prop := ringComesUptoRow.holds Try.pinned (OpenSpec.upto ringComesSpec)

/-- 'haywainlaw09.RingGoes', WHERE WHAT IT READS IS OF BULK AT MOST 1048576: true; the input reads as it did. -/
def ringGoesUptoRow : OpenClaim := { program := "ytpgjcgoonlobeaa", sum := "96ba0383461ece47e22f13123d889115790eb2d81f7b88b66c4dc1c62e54cc51", func := "haywain/haywainlaw09.RingGoes", spec := "ringGoes", apart := false, narrowed := true }
def RingGoesUptoSaid : Prop := ringGoesUptoRow.holds Try.pinned (OpenSpec.upto ringGoesSpec)

end Rows
end Go.Proofs.Ytpgjcgoonlobeaa
