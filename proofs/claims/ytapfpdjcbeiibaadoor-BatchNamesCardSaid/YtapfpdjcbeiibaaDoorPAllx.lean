-- Made by a program of this session (wip/gen)
import Derived.Test.YtapfpdjcbeiibaaDoorPAllx0
import Derived.Test.YtapfpdjcbeiibaaDoorPAllx1
import Derived.Test.YtapfpdjcbeiibaaDoorPAllx2
import Derived.Test.YtapfpdjcbeiibaaDoorPAllx3
import Derived.Test.YtapfpdjcbeiibaaDoorPAllx4
import Derived.Test.YtapfpdjcbeiibaaDoorPAllx5
import Derived.Test.YtapfpdjcbeiibaaDoorPAllx6
import Derived.Test.YtapfpdjcbeiibaaDoorPAllx7
import Derived.Test.YtapfpdjcbeiibaaDoorPAllx8
import Derived.Test.YtapfpdjcbeiibaaDoorPAllx9
namespace Go.Proofs.YtapfpdjcbeiibaaDoor.PAll
open Go.RowKit Go.Proofs.YtapfpdjcbeiibaaDoorW.PrintWords Go.Proofs.YtapfpdjcbeiibaaDoorW.PrintLast Go.Proofs.YtapfpdjcbeiibaaDoorW.PrintMore
attribute [local go_sem] max2_int min2_int max_two min_two max_three min_three max_four min_four   -- for this text's walks alone
set_option linter.unusedVariables false
set_option linter.unusedSimpArgs false

end Go.Proofs.YtapfpdjcbeiibaaDoor.PAll
