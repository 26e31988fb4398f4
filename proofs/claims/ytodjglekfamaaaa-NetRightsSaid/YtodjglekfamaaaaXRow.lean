/- The place that a row's value names: plain. -/
import Derived.Test.YtodjglekfamaaaaWWords
namespace Go.Proofs.YtodjglekfamaaaaW.PrintWords
open Go.RowKit
def rowAd : Value → Addr
  | .slice (some a) _ _ => a
  | _ => ⟨0, 0, none⟩
end Go.Proofs.YtodjglekfamaaaaW.PrintWords
