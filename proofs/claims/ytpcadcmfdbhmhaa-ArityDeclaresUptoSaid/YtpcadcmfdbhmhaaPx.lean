-- A text of this claim, laid by a program of mine over the kit's printer (myprint.py), stubs by hand.
import Derived.Test.YtpcadcmfdbhmhaaPx0
import Derived.Test.YtpcadcmfdbhmhaaPx1
import Derived.Test.YtpcadcmfdbhmhaaPx2
import Derived.Test.YtpcadcmfdbhmhaaPx3
import Derived.Test.YtpcadcmfdbhmhaaPx4
namespace Go.Proofs.Ytpcadcmfdbhmhaa.P
open Go.RowKit Go.Proofs.YtpcadcmfdbhmhaaW.PrintWords Go.Proofs.YtpcadcmfdbhmhaaW.PrintLast Go.Proofs.YtpcadcmfdbhmhaaW.PrintMore
attribute [local go_sem] max2_int min2_int max_two min_two max_three min_three max_four min_four   -- for this text's walks alone
set_option linter.unusedVariables false
set_option linter.unusedSimpArgs false

end Go.Proofs.Ytpcadcmfdbhmhaa.P
