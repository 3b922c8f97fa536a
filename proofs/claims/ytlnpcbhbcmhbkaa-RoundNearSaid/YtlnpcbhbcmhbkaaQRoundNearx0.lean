-- Written by a program of this session (wip/myprint.py, a changed print) out of Lean's own print of the translation. Lean checks it.
import Derived.Test.YtlnpcbhbcmhbkaaProg
import Derived.Below
import Derived.Deep.Draws
import Derived.Deep.AppendLies
import Derived.Maps.AppendAt
import Derived.OwnWalk
import Derived.Laws.BytesArg
import Derived.Laws.MakeOwn
import Derived.Laws.OwnMore
import Derived.Deep.OwnRows
import Derived.Tactics
import Derived.Lib.ConvBytes
import Derived.Laws.Slices
import Derived.WalkKit
import Derived.KernelRfl
import Derived.RowKit3
import Derived.Deep.LoopGhost
import Derived.Deep.QuietTactic
import Derived.BigQuiet
import Derived.WideLaws
import Derived.Deep.DeepCutAuto
import Derived.Deep.CutBlock
import Derived.Deep.RegionHeld3
import Derived.Laws.Rows
import Derived.Lib.AppendStr
import Derived.ArgAppend
import Derived.Laws.IdiomCopy
import Derived.OrdersHeld
import Derived.Laws.BitsLemmas
import Derived.RowKit
import Derived.Test.YtlnpcbhbcmhbkaaWWords
import Derived.Test.YtlnpcbhbcmhbkaaWLast
import Derived.Test.YtlnpcbhbcmhbkaaWTab
import Derived.Test.YtlnpcbhbcmhbkaaWFour
import Derived.Test.YtlnpcbhbcmhbkaaWQPut
import Derived.Test.YtlnpcbhbcmhbkaaWApart
import Derived.Test.YtlnpcbhbcmhbkaaWArr
import Derived.Test.YtlnpcbhbcmhbkaaWZeros
import Derived.Test.YtlnpcbhbcmhbkaaWFoot
import Derived.Test.YtlnpcbhbcmhbkaaWKept
import Derived.Test.YtlnpcbhbcmhbkaaWShare
import Derived.Test.YtlnpcbhbcmhbkaaWN
import Derived.Test.YtlnpcbhbcmhbkaaWFootNe
import Derived.Test.YtlnpcbhbcmhbkaaWAt
import Derived.Test.YtlnpcbhbcmhbkaaWEqStruct
import Derived.Test.YtlnpcbhbcmhbkaaWRepsOne
import Derived.Test.YtlnpcbhbcmhbkaaWInv
import Derived.Test.YtlnpcbhbcmhbkaaWInvWords
import Derived.Test.YtlnpcbhbcmhbkaaWGuard
import Derived.Test.YtlnpcbhbcmhbkaaWNEv
import Derived.Test.YtlnpcbhbcmhbkaaWMore
import Derived.Test.YtlnpcbhbcmhbkaaUX
namespace Go.Proofs.Ytlnpcbhbcmhbkaa.QRoundNear
open Go.RowKit Go.Proofs.YtlnpcbhbcmhbkaaW.PrintWords Go.Proofs.YtlnpcbhbcmhbkaaW.PrintLast Go.Proofs.YtlnpcbhbcmhbkaaW.PrintMore Go.Proofs.Ytlnpcbhbcmhbkaa.UX
attribute [local go_sem] max2_int min2_int max_two min_two max_three min_three max_four min_four   -- for this text's walks alone
set_option linter.unusedVariables false
set_option linter.unusedSimpArgs false



def errW : Option Int → Value
  | none => .nilIface
  | some c => .iface 0 (.int .i64 c)
theorem errW_none : errW none = .nilIface := rfl
theorem errW_some (c : Int) : errW (some c) = .iface 0 (.int .i64 c) := rfl

theorem info3 : (Try.prog.info? 3).map (fun i => (i.zero, i.size, i.bytes)) = some (some (.int .i64 0), 1, 8) := by kernel_rfl
-- the values' own types

end Go.Proofs.Ytlnpcbhbcmhbkaa.QRoundNear
