-- laid by a program of this session (gprint.py)
import Derived.Test.YtbnpodkfcfdpeaaPFltx0
import Derived.Test.YtbnpodkfcfdpeaaPFltx1
import Derived.Test.YtbnpodkfcfdpeaaPFltx2
import Derived.Test.YtbnpodkfcfdpeaaPFltx3
import Derived.Test.YtbnpodkfcfdpeaaPFltx4
import Derived.Test.YtbnpodkfcfdpeaaPFltx5
import Derived.Test.YtbnpodkfcfdpeaaPFltx6
import Derived.Test.YtbnpodkfcfdpeaaPFltx7
import Derived.Test.YtbnpodkfcfdpeaaPFltx8
import Derived.Test.YtbnpodkfcfdpeaaPFltx9
import Derived.Test.YtbnpodkfcfdpeaaPFltx10
import Derived.Test.YtbnpodkfcfdpeaaPFltx11
namespace Go.Proofs.Ytbnpodkfcfdpeaa.PFlt
open Go.RowKit Go.Proofs.YtbnpodkfcfdpeaaW.PrintWords Go.Proofs.YtbnpodkfcfdpeaaW.PrintLast Go.Proofs.YtbnpodkfcfdpeaaW.PrintMore
attribute [local go_sem] max2_int min2_int max_two min_two max_three min_three max_four min_four   -- for this text's walks alone
set_option linter.unusedVariables false
set_option linter.unusedSimpArgs false

end Go.Proofs.Ytbnpodkfcfdpeaa.PFlt
