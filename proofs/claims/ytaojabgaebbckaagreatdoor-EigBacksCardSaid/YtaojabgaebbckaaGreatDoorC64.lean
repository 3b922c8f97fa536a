/- The head of the laws of layer 24, reckoned. -/
import Derived.Test.YtaojabgaebbckaaGreatDoorMR
set_option linter.unusedSimpArgs false
set_option linter.unusedVariables false
set_option maxRecDepth 100000
namespace Go.Proofs.YtaojabgaebbckaaGreatDoor.M
open Go Go.Proofs
theorem head24_spec (H : MH) : Spec Tryz.prog 5 [] H fun v H' => v = bl true ∧ H' = H := runs 1000 100 rfl rfl (fun σ => by kernel_rfl) H
end Go.Proofs.YtaojabgaebbckaaGreatDoor.M
