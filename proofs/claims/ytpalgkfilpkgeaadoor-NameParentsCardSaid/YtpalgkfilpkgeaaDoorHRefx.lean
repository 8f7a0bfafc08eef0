-- Laid by a program of this session out of the translation (the kit's printing program, with some contracts given by hand). Lean checks it.
import Derived.Test.YtpalgkfilpkgeaaDoorHRefx0
import Derived.Test.YtpalgkfilpkgeaaDoorHRefx1
import Derived.Test.YtpalgkfilpkgeaaDoorHRefx2
import Derived.Test.YtpalgkfilpkgeaaDoorHRefx3
import Derived.Test.YtpalgkfilpkgeaaDoorHRefx4
namespace Go.Proofs.YtpalgkfilpkgeaaDoor.HRef
open Go.Proofs.YtpalgkfilpkgeaaDoor.Given2 Go.RowKit Go.Proofs.YtpalgkfilpkgeaaDoorW.PrintWords Go.Proofs.YtpalgkfilpkgeaaDoorW.PrintLast Go.Proofs.YtpalgkfilpkgeaaDoorW.PrintMore
attribute [local go_sem] max2_int min2_int max_two min_two max_three min_three max_four min_four   -- for this text's walks alone
set_option linter.unusedVariables false
set_option linter.unusedSimpArgs false

end Go.Proofs.YtpalgkfilpkgeaaDoor.HRef
