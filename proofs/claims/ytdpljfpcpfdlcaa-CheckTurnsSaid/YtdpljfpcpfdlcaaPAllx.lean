-- Made by a program of this session (wip/gen)
import Derived.Test.YtdpljfpcpfdlcaaPAllx0
import Derived.Test.YtdpljfpcpfdlcaaPAllx1
import Derived.Test.YtdpljfpcpfdlcaaPAllx2
import Derived.Test.YtdpljfpcpfdlcaaPAllx3
import Derived.Test.YtdpljfpcpfdlcaaPAllx4
import Derived.Test.YtdpljfpcpfdlcaaPAllx5
import Derived.Test.YtdpljfpcpfdlcaaPAllx6
import Derived.Test.YtdpljfpcpfdlcaaPAllx7
import Derived.Test.YtdpljfpcpfdlcaaPAllx8
import Derived.Test.YtdpljfpcpfdlcaaPAllx9
import Derived.Test.YtdpljfpcpfdlcaaPAllx10
namespace Go.Proofs.Ytdpljfpcpfdlcaa.PAll
open Go.RowKit Go.Proofs.YtdpljfpcpfdlcaaW.PrintWords Go.Proofs.YtdpljfpcpfdlcaaW.PrintLast Go.Proofs.YtdpljfpcpfdlcaaW.PrintMore
attribute [local go_sem] max2_int min2_int max_two min_two max_three min_three max_four min_four   -- for this text's walks alone
set_option linter.unusedVariables false
set_option linter.unusedSimpArgs false

end Go.Proofs.Ytdpljfpcpfdlcaa.PAll
