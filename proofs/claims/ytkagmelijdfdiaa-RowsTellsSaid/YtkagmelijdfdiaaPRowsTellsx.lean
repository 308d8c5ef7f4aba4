-- PRINTED BY print.sh 35421559b90ae4d0a3588c463048766b98c2df88dd9212a6774a882060cdf62d: not written by this session
import Derived.Test.YtkagmelijdfdiaaPRowsTellsx0
import Derived.Test.YtkagmelijdfdiaaPRowsTellsx1
import Derived.Test.YtkagmelijdfdiaaPRowsTellsx2
import Derived.Test.YtkagmelijdfdiaaPRowsTellsx3
import Derived.Test.YtkagmelijdfdiaaPRowsTellsx4
import Derived.Test.YtkagmelijdfdiaaPRowsTellsx5
import Derived.Test.YtkagmelijdfdiaaPRowsTellsx6
import Derived.Test.YtkagmelijdfdiaaPRowsTellsx7
namespace Go.Proofs.Ytkagmelijdfdiaa.PRowsTells
open Go.RowKit Go.Proofs.YtkagmelijdfdiaaW.PrintWords Go.Proofs.YtkagmelijdfdiaaW.PrintLast Go.Proofs.YtkagmelijdfdiaaW.PrintMore
attribute [local go_sem] max2_int min2_int max_two min_two max_three min_three max_four min_four   -- for this text's walks alone
set_option linter.unusedVariables false
set_option linter.unusedSimpArgs false

end Go.Proofs.Ytkagmelijdfdiaa.PRowsTells
