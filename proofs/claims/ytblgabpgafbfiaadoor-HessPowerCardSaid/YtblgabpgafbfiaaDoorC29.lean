/- The head of the laws of layer 17, reckoned. -/
import Derived.Test.YtblgabpgafbfiaaDoorMR
set_option linter.unusedSimpArgs false
set_option linter.unusedVariables false
set_option maxRecDepth 100000
namespace Go.Proofs.YtblgabpgafbfiaaDoor.M
open Go Go.Proofs
theorem head17_spec (H : MH) : Spec Tryd.prog 32 [] H fun v H' => v = bl true ∧ H' = H := runs 1000 100 rfl rfl (fun σ => by kernel_rfl) H
end Go.Proofs.YtblgabpgafbfiaaDoor.M
