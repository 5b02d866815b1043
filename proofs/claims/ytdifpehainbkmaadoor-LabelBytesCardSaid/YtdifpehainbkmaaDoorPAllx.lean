-- Made by a program of this session (wip/gen)
import Derived.Test.YtdifpehainbkmaaDoorPAllx0
import Derived.Test.YtdifpehainbkmaaDoorPAllx1
import Derived.Test.YtdifpehainbkmaaDoorPAllx2
import Derived.Test.YtdifpehainbkmaaDoorPAllx3
import Derived.Test.YtdifpehainbkmaaDoorPAllx4
import Derived.Test.YtdifpehainbkmaaDoorPAllx5
import Derived.Test.YtdifpehainbkmaaDoorPAllx6
import Derived.Test.YtdifpehainbkmaaDoorPAllx7
import Derived.Test.YtdifpehainbkmaaDoorPAllx8
import Derived.Test.YtdifpehainbkmaaDoorPAllx9
import Derived.Test.YtdifpehainbkmaaDoorPAllx10
import Derived.Test.YtdifpehainbkmaaDoorPAllx11
import Derived.Test.YtdifpehainbkmaaDoorPAllx12
namespace Go.Proofs.YtdifpehainbkmaaDoor.PAll
open Go.RowKit Go.Proofs.YtdifpehainbkmaaDoorW.PrintWords Go.Proofs.YtdifpehainbkmaaDoorW.PrintLast Go.Proofs.YtdifpehainbkmaaDoorW.PrintMore
attribute [local go_sem] max2_int min2_int max_two min_two max_three min_three max_four min_four   -- for this text's walks alone
set_option linter.unusedVariables false
set_option linter.unusedSimpArgs false

end Go.Proofs.YtdifpehainbkmaaDoor.PAll
