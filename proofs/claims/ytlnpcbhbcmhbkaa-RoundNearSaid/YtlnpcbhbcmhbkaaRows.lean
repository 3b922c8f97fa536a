/-
  No cell of these rows narrows 'for every input' (looked for: loops, veiled, ifaces, maps, wideKeys, modest, calm, conditions, laid).
  DERIVED. THE GIVEN ROWS OF THIS SEAT. 10 by the template 'for every input the law returns true; each argument reads behind the call as it read before'; 0 by the template 'total and deterministic' (their statements: YtlnpcbhbcmhbkaaTotals.lean).
  GIVEN WITH THE SEED: the statements are not yours to turn. If you find one false, say at which input.
  Laid BY PROGRAM, IN A SANDBOX (cutbox-rows.mjs): the forced cells as the released guide's own fill.sh prints them over the translation cfd9bbb5554687f9… (all of the seat's roots in one cut). By AI agents, Wed Nov 11 2026. No macro, syntax, notation, axiom, sorry.
-/
import Derived.Test.YtlnpcbhbcmhbkaaChecked
import GoSem.Claim
import GoSem.ClaimJoined
import GoSem.ClaimMapViews
import Derived.JoinedTies
import Derived.KernelRfl
namespace Go.Proofs.Ytlnpcbhbcmhbkaa
/- THE CELL 'sum', in the pinned program and in every row, IS THE sha256 OF THE DUMP (.gsa) THAT YtlnpcbhbcmhbkaaProg.lean LOADS. Nothing in Lean hashes anything: it is a label: what it is worth is what the hold of that sum in a sandbox is worth. -/
noncomputable def Try.pinned : Pinned := { name := "ytlnpcbhbcmhbkaa", sum := "cfd9bbb5554687f935d34b965f072fd4fd34d62e0ddd382299a438195c606b71", checked := Try.checked }
namespace Rows
def none {H : Type} : Left H := { results := [], args := [] }

/-- 'gimballaw06.OrderTotal': WHATEVER THE INPUT: true; the input reads as it did. -/
def orderTotalSpec : ChangeSpec := { name := "orderTotal", fn := fun _ => fun
  | [d1, d2, d3] => { results := [.lit (.bool true)], args := [d1, d2, d3] }
  | _ => none }
def orderTotalRow : OpenClaim := { program := "ytlnpcbhbcmhbkaa", sum := "cfd9bbb5554687f935d34b965f072fd4fd34d62e0ddd382299a438195c606b71", func := "gimbal/gimballaw06.OrderTotal", spec := "orderTotal", apart := false }
def OrderTotalSaid : Prop := orderTotalRow.holds Try.pinned (OpenSpec.ofChange orderTotalSpec)

/-- ITS FALSE NEIGHBOUR: 'it returns false'. Refute it at one input. -/
def orderTotalWrong : ChangeSpec := { name := "orderTotal", fn := fun _ => fun
  | [d1, d2, d3] => { results := [.lit (.bool false)], args := [d1, d2, d3] }
  | _ => none }
def OrderTotalWrongFalsely : Prop := orderTotalRow.holds Try.pinned (OpenSpec.ofChange orderTotalWrong)

/-- 'gimballaw06.OrderSorts': WHATEVER THE INPUT: true; the input reads as it did. -/
def orderSortsSpec : ChangeSpec := { name := "orderSorts", fn := fun _ => fun
  | [d] => { results := [.lit (.bool true)], args := [d] }
  | _ => none }
def orderSortsRow : OpenClaim := { program := "ytlnpcbhbcmhbkaa", sum := "cfd9bbb5554687f935d34b965f072fd4fd34d62e0ddd382299a438195c606b71", func := "gimbal/gimballaw06.OrderSorts", spec := "orderSorts", apart := false }
def OrderSortsSaid : Prop := orderSortsRow.holds Try.pinned (OpenSpec.ofChange orderSortsSpec)

/-- ITS FALSE NEIGHBOUR: 'it returns false'. Refute it at one input. -/
def orderSortsWrong : ChangeSpec := { name := "orderSorts", fn := fun _ => fun
  | [d] => { results := [.lit (.bool false)], args := [d] }
  | _ => none }
def OrderSortsWrongFalsely : Prop := orderSortsRow.holds Try.pinned (OpenSpec.ofChange orderSortsWrong)

/-- 'gimballaw06.OrderCmps': WHATEVER THE INPUT: true; the input reads as it did. -/
def orderCmpsSpec : ChangeSpec := { name := "orderCmps", fn := fun _ => fun
  | [d1, d2] => { results := [.lit (.bool true)], args := [d1, d2] }
  | _ => none }
def orderCmpsRow : OpenClaim := { program := "ytlnpcbhbcmhbkaa", sum := "cfd9bbb5554687f935d34b965f072fd4fd34d62e0ddd382299a438195c606b71", func := "gimbal/gimballaw06.OrderCmps", spec := "orderCmps", apart := false }
def OrderCmpsSaid : Prop := orderCmpsRow.holds Try.pinned (OpenSpec.ofChange orderCmpsSpec)

/-- ITS FALSE NEIGHBOUR: 'it returns false'. Refute it at one input. -/
def orderCmpsWrong : ChangeSpec := { name := "orderCmps", fn := fun _ => fun
  | [d1, d2] => { results := [.lit (.bool false)], args := [d1, d2] }
  | _ => none }
def OrderCmpsWrongFalsely : Prop := orderCmpsRow.holds Try.pinned (OpenSpec.ofChange orderCmpsWrong)

/-- 'gimballaw06.OrderMost': WHATEVER THE INPUT: true; the input reads as it did. -/
def orderMostSpec : ChangeSpec := { name := "orderMost", fn := fun _ => fun
  | [d1, d2] => { results := [.lit (.bool true)], args := [d1, d2] }
  | _ => none }
def orderMostRow : OpenClaim := { program := "ytlnpcbhbcmhbkaa", sum := "cfd9bbb5554687f935d34b965f072fd4fd34d62e0ddd382299a438195c606b71", func := "gimbal/gimballaw06.OrderMost", spec := "orderMost", apart := false }
def OrderMostSaid : Prop := orderMostRow.holds Try.pinned (OpenSpec.ofChange orderMostSpec)

/-- ITS FALSE NEIGHBOUR: 'it returns false'. Refute it at one input. -/
def orderMostWrong : ChangeSpec := { name := "orderMost", fn := fun _ => fun
  | [d1, d2] => { results := [.lit (.bool false)], args := [d1, d2] }
  | _ => none }
def OrderMostWrongFalsely : Prop := orderMostRow.holds Try.pinned (OpenSpec.ofChange orderMostWrong)

/-- 'gimballaw06.OrderGreatest': WHATEVER THE INPUT: true; the input reads as it did. -/
def orderGreatestSpec : ChangeSpec := { name := "orderGreatest", fn := fun _ => fun
  | [d] => { results := [.lit (.bool true)], args := [d] }
  | _ => none }
def orderGreatestRow : OpenClaim := { program := "ytlnpcbhbcmhbkaa", sum := "cfd9bbb5554687f935d34b965f072fd4fd34d62e0ddd382299a438195c606b71", func := "gimbal/gimballaw06.OrderGreatest", spec := "orderGreatest", apart := false }
def OrderGreatestSaid : Prop := orderGreatestRow.holds Try.pinned (OpenSpec.ofChange orderGreatestSpec)

/-- ITS FALSE NEIGHBOUR: 'it returns false'. Refute it at one input. -/
def orderGreatestWrong : ChangeSpec := { name := "orderGreatest", fn := fun _ => fun
  | [d] => { results := [.lit (.bool false)], args := [d] }
  | _ => none }
def OrderGreatestWrongFalsely : Prop := orderGreatestRow.holds Try.pinned (OpenSpec.ofChange orderGreatestWrong)

/-- 'gimballaw03.RoundAny': WHATEVER THE INPUT: true; the input reads as it did. -/
def roundAnySpec : ChangeSpec := { name := "roundAny", fn := fun _ => fun
  | [d1, d2, d3, d4] => { results := [.lit (.bool true)], args := [d1, d2, d3, d4] }
  | _ => none }
def roundAnyRow : OpenClaim := { program := "ytlnpcbhbcmhbkaa", sum := "cfd9bbb5554687f935d34b965f072fd4fd34d62e0ddd382299a438195c606b71", func := "gimbal/gimballaw03.RoundAny", spec := "roundAny", inPlace := ["math/bits.Add64"], apart := false }
def RoundAnySaid : Prop := roundAnyRow.holds Try.pinned (OpenSpec.ofChange roundAnySpec)

/-- ITS FALSE NEIGHBOUR: 'it returns false'. Refute it at one input. -/
def roundAnyWrong : ChangeSpec := { name := "roundAny", fn := fun _ => fun
  | [d1, d2, d3, d4] => { results := [.lit (.bool false)], args := [d1, d2, d3, d4] }
  | _ => none }
def RoundAnyWrongFalsely : Prop := roundAnyRow.holds Try.pinned (OpenSpec.ofChange roundAnyWrong)

/-- 'gimballaw03.RoundPower': WHATEVER THE INPUT: true; the input reads as it did. -/
def roundPowerSpec : ChangeSpec := { name := "roundPower", fn := fun _ => fun
  | [d1, d2, d3] => { results := [.lit (.bool true)], args := [d1, d2, d3] }
  | _ => none }
def roundPowerRow : OpenClaim := { program := "ytlnpcbhbcmhbkaa", sum := "cfd9bbb5554687f935d34b965f072fd4fd34d62e0ddd382299a438195c606b71", func := "gimbal/gimballaw03.RoundPower", spec := "roundPower", inPlace := ["math/bits.Add64"], apart := false }
def RoundPowerSaid : Prop := roundPowerRow.holds Try.pinned (OpenSpec.ofChange roundPowerSpec)

/-- ITS FALSE NEIGHBOUR: 'it returns false'. Refute it at one input. -/
def roundPowerWrong : ChangeSpec := { name := "roundPower", fn := fun _ => fun
  | [d1, d2, d3] => { results := [.lit (.bool false)], args := [d1, d2, d3] }
  | _ => none }
def RoundPowerWrongFalsely : Prop := roundPowerRow.holds Try.pinned (OpenSpec.ofChange roundPowerWrong)

/-- 'gimballaw03.RoundOrder': WHATEVER THE INPUT: true; the input reads as it did. -/
def roundOrderSpec : ChangeSpec := { name := "roundOrder", fn := fun _ => fun
  | [d1, d2, d3] => { results := [.lit (.bool true)], args := [d1, d2, d3] }
  | _ => none }
def roundOrderRow : OpenClaim := { program := "ytlnpcbhbcmhbkaa", sum := "cfd9bbb5554687f935d34b965f072fd4fd34d62e0ddd382299a438195c606b71", func := "gimbal/gimballaw03.RoundOrder", spec := "roundOrder", inPlace := ["math/bits.Add64"], apart := false }
def RoundOrderSaid : Prop := roundOrderRow.holds Try.pinned (OpenSpec.ofChange roundOrderSpec)

/-- ITS FALSE NEIGHBOUR: 'it returns false'. Refute it at one input. -/
def roundOrderWrong : ChangeSpec := { name := "roundOrder", fn := fun _ => fun
  | [d1, d2, d3] => { results := [.lit (.bool false)], args := [d1, d2, d3] }
  | _ => none }
def RoundOrderWrongFalsely : Prop := roundOrderRow.holds Try.pinned (OpenSpec.ofChange roundOrderWrong)

/-- 'gimballaw03.RoundExact': WHATEVER THE INPUT: true; the input reads as it did. -/
def roundExactSpec : ChangeSpec := { name := "roundExact", fn := fun _ => fun
  | [d1, d2] => { results := [.lit (.bool true)], args := [d1, d2] }
  | _ => none }
def roundExactRow : OpenClaim := { program := "ytlnpcbhbcmhbkaa", sum := "cfd9bbb5554687f935d34b965f072fd4fd34d62e0ddd382299a438195c606b71", func := "gimbal/gimballaw03.RoundExact", spec := "roundExact", inPlace := ["math/bits.Add64"], apart := false }
def RoundExactSaid : Prop := roundExactRow.holds Try.pinned (OpenSpec.ofChange roundExactSpec)

/-- ITS FALSE NEIGHBOUR: 'it returns false'. Refute it at one input. -/
def roundExactWrong : ChangeSpec := { name := "roundExact", fn := fun _ => fun
  | [d1, d2] => { results := [.lit (.bool false)], args := [d1, d2] }
  | _ => none }
def RoundExactWrongFalsely : Prop := roundExactRow.holds Try.pinned (OpenSpec.ofChange roundExactWrong)

/-- 'gimballaw03.RoundNear': WHATEVER THE INPUT: true; the input reads as it did. -/
def roundNearSpec : ChangeSpec := { name := "roundNear", fn := fun _ => fun
  | [d1, d2] => { results := [.lit (.bool true)], args := [d1, d2] }
  | _ => none }
def roundNearRow : OpenClaim := { program := "ytlnpcbhbcmhbkaa", sum := "cfd9bbb5554687f935d34b965f072fd4fd34d62e0ddd382299a438195c606b71", func := "gimbal/gimballaw03.RoundNear", spec := "roundNear", inPlace := ["math/bits.Add64"], unfollowed := true, recurses := true, apart := false }
def RoundNearSaid : Prop := roundNearRow.holds Try.pinned (OpenSpec.ofChange roundNearSpec)

/-- ITS FALSE NEIGHBOUR: 'it returns false'. Refute it at one input. -/
def roundNearWrong : ChangeSpec := { name := "roundNear", fn := fun _ => fun
  | [d1, d2] => { results := [.lit (.bool false)], args := [d1, d2] }
  | _ => none }
def RoundNearWrongFalsely : Prop := roundNearRow.holds Try.pinned (OpenSpec.ofChange roundNearWrong)

/- THE SECOND FORM. 'bulk': how many values and letters a reading holds, each counted each time it is reached (what is shared counts as often as it is met; a slice's spare places count too). A statement '..UptoSaid' is the law's where the arguments, and the package variables that the reading takes, are together of bulk at most 1048576: NARROWER than '..Said'. Prove '..Said' where nothing that the law and all that it calls make is longer than what came in: it says more and counts as full. Else prove '..UptoSaid'. A law counts once. -/
mutual
def uptoBulk {H : Type} : DataW H → Nat
  | .lit (.string bytes) => bytes.length + 1
  | .lit _ => 1
  | .nil => 1
  | .ptr d => uptoBulk d + 1
  | .slice elems spare => uptoBulkAll elems + uptoBulkAll spare + 1
  | .agg parts => uptoBulkAll parts + 1
  | .iface _ d => uptoBulk d + 1
  | .map entries => uptoBulkEntries entries + 1
  | .held _ => 1
def uptoBulkAll {H : Type} : List (DataW H) → Nat
  | [] => 0
  | d :: r => uptoBulk d + uptoBulkAll r
def uptoBulkEntries {H : Type} : List (Lit × DataW H) → Nat
  | [] => 0
  | x :: r => uptoBulkEntry x + uptoBulkEntries r
def uptoBulkEntry {H : Type} : Lit × DataW H → Nat
  | (.string bytes, d) => bytes.length + uptoBulk d + 1
  | (_, d) => uptoBulk d + 1
 end
def uptoSmall : (H : Type) → List (DataW H) → Bool := fun _ ds => decide (uptoBulkAll ds ≤ 1048576)
def OpenSpec.upto (s : _root_.Go.ChangeSpec) : _root_.Go.OpenSpec := { _root_.Go.OpenSpec.ofChange s with cond := some uptoSmall }

/-- 'gimballaw06.OrderTotal', WHERE WHAT IT READS IS OF BULK AT MOST 1048576: true; the input reads as it did. -/
def orderTotalUptoRow : OpenClaim := { program := "ytlnpcbhbcmhbkaa", sum := "cfd9bbb5554687f935d34b965f072fd4fd34d62e0ddd382299a438195c606b71", func := "gimbal/gimballaw06.OrderTotal", spec := "orderTotal", apart := false, narrowed := true }
def OrderTotalUptoSaid : Prop := orderTotalUptoRow.holds Try.pinned (OpenSpec.upto orderTotalSpec)

/-- 'gimballaw06.OrderSorts', WHERE WHAT IT READS IS OF BULK AT MOST 1048576: true; the input reads as it did. -/
def orderSortsUptoRow : OpenClaim := { program := "ytlnpcbhbcmhbkaa", sum := "cfd9bbb5554687f935d34b965f072fd4fd34d62e0ddd382299a438195c606b71", func := "gimbal/gimballaw06.OrderSorts", spec := "orderSorts", apart := false, narrowed := true }
def OrderSortsUptoSaid : Prop := orderSortsUptoRow.holds Try.pinned (OpenSpec.upto orderSortsSpec)

/-- 'gimballaw06.OrderCmps', WHERE WHAT IT READS IS OF BULK AT MOST 1048576: true; the input reads as it did. -/
def orderCmpsUptoRow : OpenClaim := { program := "ytlnpcbhbcmhbkaa", sum := "cfd9bbb5554687f935d34b965f072fd4fd34d62e0ddd382299a438195c606b71", func := "gimbal/gimballaw06.OrderCmps", spec := "orderCmps", apart := false, narrowed := true }
def OrderCmpsUptoSaid : Prop := orderCmpsUptoRow.holds Try.pinned (OpenSpec.upto orderCmpsSpec)

/-- 'gimballaw06.OrderMost', WHERE WHAT IT READS IS OF BULK AT MOST 1048576: true; the input reads as it did. -/
def orderMostUptoRow : OpenClaim := { program := "ytlnpcbhbcmhbkaa", sum := "cfd9bbb5554687f935d34b965f072fd4fd34d62e0ddd382299a438195c606b71", func := "gimbal/gimballaw06.OrderMost", spec := "orderMost", apart := false, narrowed := true }
def OrderMostUptoSaid : Prop := orderMostUptoRow.holds Try.pinned (OpenSpec.upto orderMostSpec)

/-- 'gimballaw06.OrderGreatest', WHERE WHAT IT READS IS OF BULK AT MOST 1048576: true; the input reads as it did. -/
def orderGreatestUptoRow : OpenClaim := { program := "ytlnpcbhbcmhbkaa", sum := "cfd9bbb5554687f935d34b965f072fd4fd34d62e0ddd382299a438195c606b71", func := "gimbal/gimballaw06.OrderGreatest", spec := "orderGreatest", apart := false, narrowed := true }
def OrderGreatestUptoSaid : Prop := orderGreatestUptoRow.holds Try.pinned (OpenSpec.upto orderGreatestSpec)

/-- 'gimballaw03.RoundAny', WHERE WHAT IT READS IS OF BULK AT MOST 1048576: true; the input reads as it did. -/
def roundAnyUptoRow : OpenClaim := { program := "ytlnpcbhbcmhbkaa", sum := "cfd9bbb5554687f935d34b965f072fd4fd34d62e0ddd382299a438195c606b71", func := "gimbal/gimballaw03.RoundAny", spec := "roundAny", inPlace := ["math/bits.Add64"], apart := false, narrowed := true }
def RoundAnyUptoSaid : Prop := roundAnyUptoRow.holds Try.pinned (OpenSpec.upto roundAnySpec)

/-- 'gimballaw03.RoundPower', WHERE WHAT IT READS IS OF BULK AT MOST 1048576: true; the input reads as it did. -/
def roundPowerUptoRow : OpenClaim := { program := "ytlnpcbhbcmhbkaa", sum := "cfd9bbb5554687f935d34b965f072fd4fd34d62e0ddd382299a438195c606b71", func := "gimbal/gimballaw03.RoundPower", spec := "roundPower", inPlace := ["math/bits.Add64"], apart := false, narrowed := true }
def RoundPowerUptoSaid : Prop := roundPowerUptoRow.holds Try.pinned (OpenSpec.upto roundPowerSpec)

/-- 'gimballaw03.RoundOrder', WHERE WHAT IT READS IS OF BULK AT MOST 1048576: true; the input reads as it did. -/
def roundOrderUptoRow : OpenClaim := { program := "ytlnpcbhbcmhbkaa", sum := "cfd9bbb5554687f935d34b965f072fd4fd34d62e0ddd382299a438195c606b71", func := "gimbal/gimballaw03.RoundOrder", spec := "roundOrder", inPlace := ["math/bits.Add64"], apart := false, narrowed := true }
def RoundOrderUptoSaid : Prop := roundOrderUptoRow.holds Try.pinned (OpenSpec.upto roundOrderSpec)

/-- 'gimballaw03.RoundExact', WHERE WHAT IT READS IS OF BULK AT MOST 1048576: true; the input reads as it did. -/
def roundExactUptoRow : OpenClaim := { program := "ytlnpcbhbcmhbkaa", sum := "cfd9bbb5554687f935d34b965f072fd4fd34d62e0ddd382299a438195c606b71", func := "gimbal/gimballaw03.RoundExact", spec := "roundExact", inPlace := ["math/bits.Add64"], apart := false, narrowed := true }
def RoundExactUptoSaid : Prop := roundExactUptoRow.holds Try.pinned (OpenSpec.upto roundExactSpec)

/-- 'gimballaw03.RoundNear', WHERE WHAT IT READS IS OF BULK AT MOST 1048576: true; the input reads as it did. -/
def roundNearUptoRow : OpenClaim := { program := "ytlnpcbhbcmhbkaa", sum := "cfd9bbb5554687f935d34b965f072fd4fd34d62e0ddd382299a438195c606b71", func := "gimbal/gimballaw03.RoundNear", spec := "roundNear", inPlace := ["math/bits.Add64"], unfollowed := true, recurses := true, apart := false, narrowed := true }
def RoundNearUptoSaid : Prop := roundNearUptoRow.holds Try.pinned (OpenSpec.upto roundNearSpec)

end Rows
end Go.Proofs.Ytlnpcbhbcmhbkaa
