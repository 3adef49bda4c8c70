-- Written by a program of this session over the print (contracts by hand for the functions that it passes over).
import Derived.Test.YteiabjoagcfpfaaDoorProg
import Derived.Below
import Derived.Deep.Draws
import Derived.Deep.AppendLies
import Derived.Maps.AppendAt
import Derived.OwnWalk
import Derived.Laws.BytesArg
import Derived.Laws.MakeOwn
import Derived.Laws.OwnMore
import Derived.Deep.OwnRows
import Derived.Tactics
import Derived.Lib.ConvBytes
import Derived.Laws.Slices
import Derived.WalkKit
import Derived.KernelRfl
import Derived.RowKit3
import Derived.Deep.LoopGhost
import Derived.Deep.QuietTactic
import Derived.BigQuiet
import Derived.WideLaws
import Derived.Deep.DeepCutAuto
import Derived.Deep.CutBlock
import Derived.Deep.RegionHeld3
import Derived.Laws.Rows
import Derived.Lib.AppendStr
import Derived.ArgAppend
import Derived.Laws.IdiomCopy
import Derived.OrdersHeld
import Derived.Laws.BitsLemmas
import Derived.RowKit
import Derived.Test.YteiabjoagcfpfaaDoorWWords
import Derived.Test.YteiabjoagcfpfaaDoorWLast
import Derived.Test.YteiabjoagcfpfaaDoorWTab
import Derived.Test.YteiabjoagcfpfaaDoorWFour
import Derived.Test.YteiabjoagcfpfaaDoorWQPut
import Derived.Test.YteiabjoagcfpfaaDoorWApart
import Derived.Test.YteiabjoagcfpfaaDoorWArr
import Derived.Test.YteiabjoagcfpfaaDoorWZeros
import Derived.Test.YteiabjoagcfpfaaDoorWFoot
import Derived.Test.YteiabjoagcfpfaaDoorWKept
import Derived.Test.YteiabjoagcfpfaaDoorWShare
import Derived.Test.YteiabjoagcfpfaaDoorWN
import Derived.Test.YteiabjoagcfpfaaDoorWFootNe
import Derived.Test.YteiabjoagcfpfaaDoorWAt
import Derived.Test.YteiabjoagcfpfaaDoorWEqStruct
import Derived.Test.YteiabjoagcfpfaaDoorWRepsOne
import Derived.Test.YteiabjoagcfpfaaDoorWInv
import Derived.Test.YteiabjoagcfpfaaDoorWInvWords
import Derived.Test.YteiabjoagcfpfaaDoorWGuard
import Derived.Test.YteiabjoagcfpfaaDoorWNEv
import Derived.Test.YteiabjoagcfpfaaDoorWMore
namespace Go.Proofs.YteiabjoagcfpfaaDoor.PSumChecks
open Go.RowKit Go.Proofs.YteiabjoagcfpfaaDoorW.PrintWords Go.Proofs.YteiabjoagcfpfaaDoorW.PrintLast Go.Proofs.YteiabjoagcfpfaaDoorW.PrintMore
attribute [local go_sem] max2_int min2_int max_two min_two max_three min_three max_four min_four   -- for this text's walks alone
set_option linter.unusedVariables false
set_option linter.unusedSimpArgs false



def errW : Option Int → Value
  | none => .nilIface
  | some c => .iface 0 (.int .i64 c)
theorem errW_none : errW none = .nilIface := rfl
theorem errW_some (c : Int) : errW (some c) = .iface 0 (.int .i64 c) := rfl

theorem info5 : (Tryd.prog.info? 5).map (fun i => (i.zero, i.size, i.bytes)) = some (some (.int .u8 0), 1, 1) := by kernel_rfl
-- the values' own types

end Go.Proofs.YteiabjoagcfpfaaDoor.PSumChecks
