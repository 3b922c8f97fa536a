-- What of the print's words this claim's walks use (kept by wip/trim.py).
import Derived.Test.YtlnpcbhbcmhbkaaVRoundAnyTab
/-! ### 56. Four, five, six operations that may come up next, in any order -/
namespace Go.Proofs.YtlnpcbhbcmhbkaaW.PrintLast
section
variable {P : Program} {ops : Array Oper} {Q : Exit → Act → World → Prop} {md : Region.Mode} {S : World → Prop} {ds : List Nat} {T : Bool × List (List Nat × List Nat)}
end
end Go.Proofs.YtlnpcbhbcmhbkaaW.PrintLast
