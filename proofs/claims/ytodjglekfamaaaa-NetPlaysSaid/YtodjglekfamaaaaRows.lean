/-
  No cell of these rows narrows 'for every input' (looked for: loops, veiled, ifaces, maps, wideKeys, modest, calm, conditions, laid).
  DERIVED. THE GIVEN ROWS OF THIS SEAT. 5 by the template 'for every input the law returns true; each argument reads behind the call as it read before'; 0 by the template 'total and deterministic' (their statements: YtodjglekfamaaaaTotals.lean).
  GIVEN WITH THE SEED: the statements are not yours to turn. If you find one false, say at which input.
  Laid BY PROGRAM, IN A SANDBOX (cutbox-rows.mjs): the forced cells as the released guide's own fill.sh prints them over the translation fa7103b7cf7228f8… (all of the seat's roots in one cut). By AI agents, Wed Nov 11 2026. No macro, syntax, notation, axiom, sorry.
-/
import Derived.Test.YtodjglekfamaaaaChecked
import GoSem.Claim
import GoSem.ClaimJoined
import GoSem.ClaimMapViews
import Derived.JoinedTies
import Derived.KernelRfl
namespace Go.Proofs.Ytodjglekfamaaaa
/- THE CELL 'sum', in the pinned program and in every row, IS THE sha256 OF THE DUMP (.gsa) THAT YtodjglekfamaaaaProg.lean LOADS. Nothing in Lean hashes anything: it is a label: what it is worth is what the hold of that sum in a sandbox is worth. -/
noncomputable def Try.pinned : Pinned := { name := "ytodjglekfamaaaa", sum := "fa7103b7cf7228f81eb39baa8d761097ffa54244b2e35951eef07ce1fad6da72", checked := Try.checked }
namespace Rows
def none {H : Type} : Left H := { results := [], args := [] }

/-- 'haywainlaw22.NetRights': WHATEVER THE INPUT: true; the input reads as it did. -/
def netRightsSpec : ChangeSpec := { name := "netRights", fn := fun _ => fun
  | [d1, d2] => { results := [.lit (.bool true)], args := [d1, d2] }
  | _ => none }
def netRightsRow : OpenClaim := { program := "ytodjglekfamaaaa", sum := "fa7103b7cf7228f81eb39baa8d761097ffa54244b2e35951eef07ce1fad6da72", func := "haywain/haywainlaw22.NetRights", spec := "netRights", unfollowed := true, recurses := true, apart := false }
def NetRightsSaid : Prop := netRightsRow.holds Try.pinned (OpenSpec.ofChange netRightsSpec)

/-- ITS FALSE NEIGHBOUR: 'it returns false'. Refute it at one input. -/
def netRightsWrong : ChangeSpec := { name := "netRights", fn := fun _ => fun
  | [d1, d2] => { results := [.lit (.bool false)], args := [d1, d2] }
  | _ => none }
def NetRightsWrongFalsely : Prop := netRightsRow.holds Try.pinned (OpenSpec.ofChange netRightsWrong)

/-- 'haywainlaw22.NetPlays': WHATEVER THE INPUT: true; the input reads as it did. -/
def netPlaysSpec : ChangeSpec := { name := "netPlays", fn := fun _ => fun
  | [d1, d2] => { results := [.lit (.bool true)], args := [d1, d2] }
  | _ => none }
def netPlaysRow : OpenClaim := { program := "ytodjglekfamaaaa", sum := "fa7103b7cf7228f81eb39baa8d761097ffa54244b2e35951eef07ce1fad6da72", func := "haywain/haywainlaw22.NetPlays", spec := "netPlays", unfollowed := true, recurses := true, apart := false }
def NetPlaysSaid : Prop := netPlaysRow.holds Try.pinned (OpenSpec.ofChange netPlaysSpec)

/-- ITS FALSE NEIGHBOUR: 'it returns false'. Refute it at one input. -/
def netPlaysWrong : ChangeSpec := { name := "netPlays", fn := fun _ => fun
  | [d1, d2] => { results := [.lit (.bool false)], args := [d1, d2] }
  | _ => none }
def NetPlaysWrongFalsely : Prop := netPlaysRow.holds Try.pinned (OpenSpec.ofChange netPlaysWrong)

/-- 'haywainlaw22.NetGives': WHATEVER THE INPUT: true; the input reads as it did. -/
def netGivesSpec : ChangeSpec := { name := "netGives", fn := fun _ => fun
  | [d1, d2] => { results := [.lit (.bool true)], args := [d1, d2] }
  | _ => none }
def netGivesRow : OpenClaim := { program := "ytodjglekfamaaaa", sum := "fa7103b7cf7228f81eb39baa8d761097ffa54244b2e35951eef07ce1fad6da72", func := "haywain/haywainlaw22.NetGives", spec := "netGives", unfollowed := true, recurses := true, apart := false }
def NetGivesSaid : Prop := netGivesRow.holds Try.pinned (OpenSpec.ofChange netGivesSpec)

/-- ITS FALSE NEIGHBOUR: 'it returns false'. Refute it at one input. -/
def netGivesWrong : ChangeSpec := { name := "netGives", fn := fun _ => fun
  | [d1, d2] => { results := [.lit (.bool false)], args := [d1, d2] }
  | _ => none }
def NetGivesWrongFalsely : Prop := netGivesRow.holds Try.pinned (OpenSpec.ofChange netGivesWrong)

/-- 'haywainlaw22.NetFull': WHATEVER THE INPUT: true; the input reads as it did. -/
def netFullSpec : ChangeSpec := { name := "netFull", fn := fun _ => fun
  | [d1, d2] => { results := [.lit (.bool true)], args := [d1, d2] }
  | _ => none }
def netFullRow : OpenClaim := { program := "ytodjglekfamaaaa", sum := "fa7103b7cf7228f81eb39baa8d761097ffa54244b2e35951eef07ce1fad6da72", func := "haywain/haywainlaw22.NetFull", spec := "netFull", unfollowed := true, recurses := true, apart := false }
def NetFullSaid : Prop := netFullRow.holds Try.pinned (OpenSpec.ofChange netFullSpec)

/-- ITS FALSE NEIGHBOUR: 'it returns false'. Refute it at one input. -/
def netFullWrong : ChangeSpec := { name := "netFull", fn := fun _ => fun
  | [d1, d2] => { results := [.lit (.bool false)], args := [d1, d2] }
  | _ => none }
def NetFullWrongFalsely : Prop := netFullRow.holds Try.pinned (OpenSpec.ofChange netFullWrong)

/-- 'haywainlaw22.NetAgain': WHATEVER THE INPUT: true; the input reads as it did. -/
def netAgainSpec : ChangeSpec := { name := "netAgain", fn := fun _ => fun
  | [d1, d2, d3] => { results := [.lit (.bool true)], args := [d1, d2, d3] }
  | _ => none }
def netAgainRow : OpenClaim := { program := "ytodjglekfamaaaa", sum := "fa7103b7cf7228f81eb39baa8d761097ffa54244b2e35951eef07ce1fad6da72", func := "haywain/haywainlaw22.NetAgain", spec := "netAgain", unfollowed := true, recurses := true, apart := false }
def NetAgainSaid : Prop := netAgainRow.holds Try.pinned (OpenSpec.ofChange netAgainSpec)

/-- ITS FALSE NEIGHBOUR: 'it returns false'. Refute it at one input. -/
def netAgainWrong : ChangeSpec := { name := "netAgain", fn := fun _ => fun
  | [d1, d2, d3] => { results := [.lit (.bool false)], args := [d1, d2, d3] }
  | _ => none }
def NetAgainWrongFalsely : Prop := netAgainRow.holds Try.pinned (OpenSpec.ofChange netAgainWrong)

/- THE SECOND FORM. 'bulk': how many values and letters a reading holds, each counted each time it is reached (what is shared counts as often as it is met; a slice's spare places count too). A statement '..UptoSaid' is the law's where the arguments, and the package variables that the reading takes, are together of bulk at most 1048576: NARROWER than '..Said'. Prove '..Said' where nothing that the law and all that it calls make is longer than what came in: it says more and counts as full. Else prove '..UptoSaid'. A law counts once. -/
mutual
def uptoBulk {H : Type} : DataW H → Nat
  | .lit (.string bytes) => bytes.length + 1
  | .lit _ => 1
  | .nil => 1
  | .ptr d => uptoBulk d + 1
  | .slice elems spare => uptoBulkAll elems + uptoBulkAll spare + 1
  | .agg parts => uptoBulkAll parts + 1
  | .iface _ d => uptoBulk d + 1
  | .map entries => uptoBulkEntries entries + 1
  | .held _ => 1
def uptoBulkAll {H : Type} : List (DataW H) → Nat
  | [] => 0
  | d :: r => uptoBulk d + uptoBulkAll r
def uptoBulkEntries {H : Type} : List (Lit × DataW H) → Nat
  | [] => 0
  | x :: r => uptoBulkEntry x + uptoBulkEntries r
def uptoBulkEntry {H : Type} : Lit × DataW H → Nat
  | (.string bytes, d) => bytes.length + uptoBulk d + 1
  | (_, d) => uptoBulk d + 1
 end
def uptoSmall : (H : Type) → List (DataW H) → Bool := fun _ ds => decide (uptoBulkAll ds ≤ 1048576)
def OpenSpec.upto (s : _root_.Go.ChangeSpec) : _root_.Go.OpenSpec := { _root_.Go.OpenSpec.ofChange s with cond := some uptoSmall }

/-- 'haywainlaw22.NetRights', WHERE WHAT IT READS IS OF BULK AT MOST 1048576: true; the input reads as it did. -/
def netRightsUptoRow : OpenClaim := { program := "ytodjglekfamaaaa", sum := "fa7103b7cf7228f81eb39baa8d761097ffa54244b2e35951eef07ce1fad6da72", func := "haywain/haywainlaw22.NetRights", spec := "netRights", unfollowed := true, recurses := true, apart := false, narrowed := true }
def NetRightsUptoSaid : Prop := netRightsUptoRow.holds Try.pinned (OpenSpec.upto netRightsSpec)

/-- 'haywainlaw22.NetPlays', WHERE WHAT IT READS IS OF BULK AT MOST 1048576: true; the input reads as it did. -/
def netPlaysUptoRow : OpenClaim := { program := "ytodjglekfamaaaa", sum := "fa7103b7cf7228f81eb39baa8d761097ffa54244b2e35951eef07ce1fad6da72", func := "haywain/haywainlaw22.NetPlays", spec := "netPlays", unfollowed := true, recurses := true, apart := false, narrowed := true }
def NetPlaysUptoSaid : Prop := netPlaysUptoRow.holds Try.pinned (OpenSpec.upto netPlaysSpec)

/-- 'haywainlaw22.NetGives', WHERE WHAT IT READS IS OF BULK AT MOST 1048576: true; the input reads as it did. -/
def netGivesUptoRow : OpenClaim := { program := "ytodjglekfamaaaa", sum := "fa7103b7cf7228f81eb39baa8d761097ffa54244b2e35951eef07ce1fad6da72", func := "haywain/haywainlaw22.NetGives", spec := "netGives", unfollowed := true, recurses := true, apart := false, narrowed := true }
def NetGivesUptoSaid : Prop := netGivesUptoRow.holds Try.pinned (OpenSpec.upto netGivesSpec)

/-- 'haywainlaw22.NetFull', WHERE WHAT IT READS IS OF BULK AT MOST 1048576: true; the input reads as it did. -/
def netFullUptoRow : OpenClaim := { program := "ytodjglekfamaaaa", sum := "fa7103b7cf7228f81eb39baa8d761097ffa54244b2e35951eef07ce1fad6da72", func := "haywain/haywainlaw22.NetFull", spec := "netFull", unfollowed := true, recurses := true, apart := false, narrowed := true }
def NetFullUptoSaid : Prop := netFullUptoRow.holds Try.pinned (OpenSpec.upto netFullSpec)

/-- 'haywainlaw22.NetAgain', WHERE WHAT IT READS IS OF BULK AT MOST 1048576: true; the input reads as it did. -/
def netAgainUptoRow : OpenClaim := { program := "ytodjglekfamaaaa", sum := "fa7103b7cf7228f81eb39baa8d761097ffa54244b2e35951eef07ce1fad6da72", func := "haywain/haywainlaw22.NetAgain", spec := "netAgain", unfollowed := true, recurses := true, apart := false, narrowed := true }
def NetAgainUptoSaid : Prop := netAgainUptoRow.holds Try.pinned (OpenSpec.upto netAgainSpec)

end Rows
end Go.Proofs.Ytodjglekfamaaaa
