-- Written by a program of this session over the print (contracts by hand for the functions that it passes over).
import Derived.Test.YtkcgioggnbnfkaaDoorPVolumeJoinsx0
import Derived.Test.YtkcgioggnbnfkaaDoorPVolumeJoinsx1
import Derived.Test.YtkcgioggnbnfkaaDoorPVolumeJoinsx2
import Derived.Test.YtkcgioggnbnfkaaDoorPVolumeJoinsx3
import Derived.Test.YtkcgioggnbnfkaaDoorPVolumeJoinsx4
import Derived.Test.YtkcgioggnbnfkaaDoorPVolumeJoinsx5
namespace Go.Proofs.YtkcgioggnbnfkaaDoor.PVolumeJoins
open Go.RowKit Go.Proofs.YtkcgioggnbnfkaaDoorW.PrintWords Go.Proofs.YtkcgioggnbnfkaaDoorW.PrintLast Go.Proofs.YtkcgioggnbnfkaaDoorW.PrintMore
attribute [local go_sem] max2_int min2_int max_two min_two max_three min_three max_four min_four   -- for this text's walks alone
set_option linter.unusedVariables false
set_option linter.unusedSimpArgs false

end Go.Proofs.YtkcgioggnbnfkaaDoor.PVolumeJoins
