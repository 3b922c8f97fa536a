-- What of the print's words this claim's walks use (kept by wip/trim.py).
import Derived.Test.YtlnpcbhbcmhbkaaVRoundAnyInv
import Derived.Test.YtlnpcbhbcmhbkaaVRoundAnyFootNe
namespace Go.Proofs.YtlnpcbhbcmhbkaaW.PrintWords
open Go.RowKit
end Go.Proofs.YtlnpcbhbcmhbkaaW.PrintWords
namespace Go.Proofs.YtlnpcbhbcmhbkaaW.PrintLast
section
variable {ops : Array Oper} {a : Act} {o og : Oper} {g : Nat} {t : Tmp} {u : Bool}
end
end Go.Proofs.YtlnpcbhbcmhbkaaW.PrintLast
