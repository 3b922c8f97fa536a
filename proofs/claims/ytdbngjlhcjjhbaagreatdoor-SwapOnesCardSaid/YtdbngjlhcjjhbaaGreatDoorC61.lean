/- The head of the laws of layer 19, reckoned. -/
import Derived.Test.YtdbngjlhcjjhbaaGreatDoorMR
set_option linter.unusedSimpArgs false
set_option linter.unusedVariables false
set_option maxRecDepth 100000
namespace Go.Proofs.YtdbngjlhcjjhbaaGreatDoor.M
open Go Go.Proofs
theorem head22_spec (H : MH) : Spec Tryz.prog 6 [] H fun v H' => v = bl true ∧ H' = H := runs 1000 100 rfl rfl (fun σ => by kernel_rfl) H
end Go.Proofs.YtdbngjlhcjjhbaaGreatDoor.M
