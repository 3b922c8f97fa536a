-- Written by a program of this session (wip/myprint.py, a changed print) out of Lean's own print of the translation. Lean checks it.
import Derived.Test.YtjamobbfafjdmaaProg
import Derived.Below
import Derived.Deep.Draws
import Derived.Deep.AppendLies
import Derived.Maps.AppendAt
import Derived.OwnWalk
import Derived.Laws.BytesArg
import Derived.Laws.MakeOwn
import Derived.Laws.OwnMore
import Derived.Deep.OwnRows
import Derived.Tactics
import Derived.Lib.ConvBytes
import Derived.Laws.Slices
import Derived.WalkKit
import Derived.KernelRfl
import Derived.RowKit3
import Derived.Deep.LoopGhost
import Derived.Deep.QuietTactic
import Derived.BigQuiet
import Derived.WideLaws
import Derived.Deep.DeepCutAuto
import Derived.Deep.CutBlock
import Derived.Deep.RegionHeld3
import Derived.Laws.Rows
import Derived.Lib.AppendStr
import Derived.ArgAppend
import Derived.Laws.IdiomCopy
import Derived.OrdersHeld
import Derived.Laws.BitsLemmas
import Derived.RowKit
import Derived.Test.YtjamobbfafjdmaaWWords
import Derived.Test.YtjamobbfafjdmaaWLast
import Derived.Test.YtjamobbfafjdmaaWTab
import Derived.Test.YtjamobbfafjdmaaWFour
import Derived.Test.YtjamobbfafjdmaaWQPut
import Derived.Test.YtjamobbfafjdmaaWApart
import Derived.Test.YtjamobbfafjdmaaWArr
import Derived.Test.YtjamobbfafjdmaaWZeros
import Derived.Test.YtjamobbfafjdmaaWFoot
import Derived.Test.YtjamobbfafjdmaaWKept
import Derived.Test.YtjamobbfafjdmaaWShare
import Derived.Test.YtjamobbfafjdmaaWN
import Derived.Test.YtjamobbfafjdmaaWFootNe
import Derived.Test.YtjamobbfafjdmaaWAt
import Derived.Test.YtjamobbfafjdmaaWEqStruct
import Derived.Test.YtjamobbfafjdmaaWRepsOne
import Derived.Test.YtjamobbfafjdmaaWInv
import Derived.Test.YtjamobbfafjdmaaWInvWords
import Derived.Test.YtjamobbfafjdmaaWGuard
import Derived.Test.YtjamobbfafjdmaaWNEv
import Derived.Test.YtjamobbfafjdmaaWMore
import Derived.Test.YtjamobbfafjdmaaUX
namespace Go.Proofs.Ytjamobbfafjdmaa.QWordFloats
open Go.RowKit Go.Proofs.YtjamobbfafjdmaaW.PrintWords Go.Proofs.YtjamobbfafjdmaaW.PrintLast Go.Proofs.YtjamobbfafjdmaaW.PrintMore Go.Proofs.Ytjamobbfafjdmaa.UX
attribute [local go_sem] max2_int min2_int max_two min_two max_three min_three max_four min_four   -- for this text's walks alone
set_option linter.unusedVariables false
set_option linter.unusedSimpArgs false



def errW : Option Int → Value
  | none => .nilIface
  | some c => .iface 0 (.int .i64 c)
theorem errW_none : errW none = .nilIface := rfl
theorem errW_some (c : Int) : errW (some c) = .iface 0 (.int .i64 c) := rfl

-- the values' own types

end Go.Proofs.Ytjamobbfafjdmaa.QWordFloats
