-- Laid by a program of this session out of the translation (the kit's printing program, with some contracts given by hand). Lean checks it.
import Derived.Test.YticjkhkmbinmgaaRPlacex0
import Derived.Test.YticjkhkmbinmgaaRPlacex1
import Derived.Test.YticjkhkmbinmgaaRPlacex2
import Derived.Test.YticjkhkmbinmgaaRPlacex3
namespace Go.Proofs.Yticjkhkmbinmgaa.RPlace
open Go.Proofs.Yticjkhkmbinmgaa.QClean Go.Proofs.Yticjkhkmbinmgaa.GivenA Go.Proofs.Yticjkhkmbinmgaa.GivenB Go.Proofs.Yticjkhkmbinmgaa.GivenD Go.RowKit Go.Proofs.YticjkhkmbinmgaaW.PrintWords Go.Proofs.YticjkhkmbinmgaaW.PrintLast Go.Proofs.YticjkhkmbinmgaaW.PrintMore
attribute [local go_sem] max2_int min2_int max_two min_two max_three min_three max_four min_four   -- for this text's walks alone
set_option linter.unusedVariables false
set_option linter.unusedSimpArgs false

end Go.Proofs.Yticjkhkmbinmgaa.RPlace
