-- Written by a program of this session over the print (contracts by hand for the functions that it passes over).
import Derived.Test.YtfoenpdfmhmkiaaProg
import Derived.Below
import Derived.Deep.Draws
import Derived.Deep.AppendLies
import Derived.Maps.AppendAt
import Derived.OwnWalk
import Derived.Laws.BytesArg
import Derived.Laws.MakeOwn
import Derived.Laws.OwnMore
import Derived.Deep.OwnRows
import Derived.Tactics
import Derived.Lib.ConvBytes
import Derived.Laws.Slices
import Derived.WalkKit
import Derived.KernelRfl
import Derived.RowKit3
import Derived.Deep.LoopGhost
import Derived.Deep.QuietTactic
import Derived.BigQuiet
import Derived.WideLaws
import Derived.Deep.DeepCutAuto
import Derived.Deep.CutBlock
import Derived.Deep.RegionHeld3
import Derived.Laws.Rows
import Derived.Lib.AppendStr
import Derived.ArgAppend
import Derived.Laws.IdiomCopy
import Derived.OrdersHeld
import Derived.Laws.BitsLemmas
import Derived.RowKit
import Derived.Test.YtfoenpdfmhmkiaaWWords
import Derived.Test.YtfoenpdfmhmkiaaWLast
import Derived.Test.YtfoenpdfmhmkiaaWTab
import Derived.Test.YtfoenpdfmhmkiaaWFour
import Derived.Test.YtfoenpdfmhmkiaaWQPut
import Derived.Test.YtfoenpdfmhmkiaaWApart
import Derived.Test.YtfoenpdfmhmkiaaWArr
import Derived.Test.YtfoenpdfmhmkiaaWZeros
import Derived.Test.YtfoenpdfmhmkiaaWFoot
import Derived.Test.YtfoenpdfmhmkiaaWKept
import Derived.Test.YtfoenpdfmhmkiaaWShare
import Derived.Test.YtfoenpdfmhmkiaaWN
import Derived.Test.YtfoenpdfmhmkiaaWFootNe
import Derived.Test.YtfoenpdfmhmkiaaWAt
import Derived.Test.YtfoenpdfmhmkiaaWEqStruct
import Derived.Test.YtfoenpdfmhmkiaaWRepsOne
import Derived.Test.YtfoenpdfmhmkiaaWInv
import Derived.Test.YtfoenpdfmhmkiaaWInvWords
import Derived.Test.YtfoenpdfmhmkiaaWGuard
import Derived.Test.YtfoenpdfmhmkiaaWNEv
import Derived.Test.YtfoenpdfmhmkiaaWMore
namespace Go.Proofs.Ytfoenpdfmhmkiaa.PQueuePlays
open Go.RowKit Go.Proofs.YtfoenpdfmhmkiaaW.PrintWords Go.Proofs.YtfoenpdfmhmkiaaW.PrintLast Go.Proofs.YtfoenpdfmhmkiaaW.PrintMore
attribute [local go_sem] max2_int min2_int max_two min_two max_three min_three max_four min_four   -- for this text's walks alone
set_option linter.unusedVariables false
set_option linter.unusedSimpArgs false



def errW : Option Int → Value
  | none => .nilIface
  | some c => .iface 0 (.int .i64 c)
theorem errW_none : errW none = .nilIface := rfl
theorem errW_some (c : Int) : errW (some c) = .iface 0 (.int .i64 c) := rfl

theorem info3 : (Try.prog.info? 3).map (fun i => (i.zero, i.size, i.bytes)) = some (some (.int .i64 0), 1, 8) := by kernel_rfl
-- the values' own types

end Go.Proofs.Ytfoenpdfmhmkiaa.PQueuePlays
