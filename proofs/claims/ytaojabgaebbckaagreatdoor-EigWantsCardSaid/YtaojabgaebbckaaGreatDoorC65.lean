/- The law EigWants, with its head. -/
import Derived.Test.YtaojabgaebbckaaGreatDoorC63
import Derived.Test.YtaojabgaebbckaaGreatDoorC64
set_option maxRecDepth 100000
namespace Go.Proofs.YtaojabgaebbckaaGreatDoor.M
open Go Go.Proofs
theorem ewants (k b x y : Int) (hx : InU x) (hy : InU y) (H : MH) : Spec Tryz.prog 3 [.agg [i64 k, u64 b], .agg [u64 x, u64 y]] H fun u H' => u = bl true ∧ H' = H := wants head24_spec k b x y hx hy H
end Go.Proofs.YtaojabgaebbckaaGreatDoor.M
