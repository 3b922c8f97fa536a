/- The head of the laws of layer 13, reckoned. -/
import Derived.Test.YtcikcinkjbbnhaaDoorMR
set_option linter.unusedSimpArgs false
set_option linter.unusedVariables false
set_option maxRecDepth 100000
namespace Go.Proofs.YtcikcinkjbbnhaaDoor.M
open Go Go.Proofs
theorem head13_spec (H : MH) : Spec Tryd.prog 10 [] H fun v H' => v = bl true ∧ H' = H := runs 1000 100 rfl rfl (fun σ => by kernel_rfl) H
end Go.Proofs.YtcikcinkjbbnhaaDoor.M
