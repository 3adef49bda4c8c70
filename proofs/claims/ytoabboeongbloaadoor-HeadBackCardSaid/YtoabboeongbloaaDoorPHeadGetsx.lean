-- Written by a program of this session over the print (contracts by hand for the functions that it passes over).
import Derived.Test.YtoabboeongbloaaDoorPHeadGetsx0
import Derived.Test.YtoabboeongbloaaDoorPHeadGetsx1
import Derived.Test.YtoabboeongbloaaDoorPHeadGetsx2
import Derived.Test.YtoabboeongbloaaDoorPHeadGetsx3
import Derived.Test.YtoabboeongbloaaDoorPHeadGetsx4
import Derived.Test.YtoabboeongbloaaDoorPHeadGetsx5
namespace Go.Proofs.YtoabboeongbloaaDoor.PHeadGets
open Go.RowKit Go.Proofs.YtoabboeongbloaaDoorW.PrintWords Go.Proofs.YtoabboeongbloaaDoorW.PrintLast Go.Proofs.YtoabboeongbloaaDoorW.PrintMore
attribute [local go_sem] max2_int min2_int max_two min_two max_three min_three max_four min_four   -- for this text's walks alone
set_option linter.unusedVariables false
set_option linter.unusedSimpArgs false

end Go.Proofs.YtoabboeongbloaaDoor.PHeadGets
