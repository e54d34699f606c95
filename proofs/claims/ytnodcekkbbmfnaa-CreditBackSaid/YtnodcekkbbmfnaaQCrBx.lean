/- Printed by wip/gen/myprint.py, a program of this session, for this claim: functions of the program as Lean functions, each with a proof that the Go code comes to its answers. -/
import Derived.Test.YtnodcekkbbmfnaaQCrBx0
import Derived.Test.YtnodcekkbbmfnaaQCrBx1
import Derived.Test.YtnodcekkbbmfnaaQCrBx2
import Derived.Test.YtnodcekkbbmfnaaQCrBx3
import Derived.Test.YtnodcekkbbmfnaaQCrBx4
import Derived.Test.YtnodcekkbbmfnaaQCrBx5
import Derived.Test.YtnodcekkbbmfnaaQCrBx6
import Derived.Test.YtnodcekkbbmfnaaQCrBx7
import Derived.Test.YtnodcekkbbmfnaaQCrBx8
import Derived.Test.YtnodcekkbbmfnaaQCrBx9
import Derived.Test.YtnodcekkbbmfnaaQCrBx10
namespace Go.Proofs.Ytnodcekkbbmfnaa.QCrB
open Go.RowKit Go.Proofs.YtnodcekkbbmfnaaW.PrintWords Go.Proofs.YtnodcekkbbmfnaaW.PrintLast Go.Proofs.YtnodcekkbbmfnaaW.PrintMore
attribute [local go_sem] max2_int min2_int max_two min_two max_three min_three max_four min_four   -- for this text's walks alone
set_option linter.unusedVariables false
set_option linter.unusedSimpArgs false

end Go.Proofs.Ytnodcekkbbmfnaa.QCrB
