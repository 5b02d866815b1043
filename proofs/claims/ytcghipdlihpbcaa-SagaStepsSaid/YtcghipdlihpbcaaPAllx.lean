-- Made by a program of this session (wip/gen)
import Derived.Test.YtcghipdlihpbcaaPAllx0
import Derived.Test.YtcghipdlihpbcaaPAllx1
import Derived.Test.YtcghipdlihpbcaaPAllx2
import Derived.Test.YtcghipdlihpbcaaPAllx3
import Derived.Test.YtcghipdlihpbcaaPAllx4
import Derived.Test.YtcghipdlihpbcaaPAllx5
import Derived.Test.YtcghipdlihpbcaaPAllx6
import Derived.Test.YtcghipdlihpbcaaPAllx7
import Derived.Test.YtcghipdlihpbcaaPAllx8
namespace Go.Proofs.Ytcghipdlihpbcaa.PAll
open Go.RowKit Go.Proofs.YtcghipdlihpbcaaW.PrintWords Go.Proofs.YtcghipdlihpbcaaW.PrintLast Go.Proofs.YtcghipdlihpbcaaW.PrintMore
attribute [local go_sem] max2_int min2_int max_two min_two max_three min_three max_four min_four   -- for this text's walks alone
set_option linter.unusedVariables false
set_option linter.unusedSimpArgs false

end Go.Proofs.Ytcghipdlihpbcaa.PAll
