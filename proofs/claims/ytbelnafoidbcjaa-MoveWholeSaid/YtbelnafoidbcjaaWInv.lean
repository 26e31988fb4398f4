-- Of the words that the print laid for this seat: those that this claim uses (wip/tools/words.py); a text of this session, not of print.sh.
import Derived.Test.YtbelnafoidbcjaaWTab
namespace Go.Proofs.YtbelnafoidbcjaaW.PrintLast
def up (b : Nat → Bool) (i : Nat) : Nat → Bool := fun j => if j = i then true else b j
end Go.Proofs.YtbelnafoidbcjaaW.PrintLast
