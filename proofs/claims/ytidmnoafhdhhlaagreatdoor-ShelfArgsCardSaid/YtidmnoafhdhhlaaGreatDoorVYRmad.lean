/- A part of the proof of ShelfArgs: the program run by the evaluator. No condition. -/
import Derived.Test.YtidmnoafhdhhlaaGreatDoorVYM
import Derived.Test.YtidmnoafhdhhlaaGreatDoorVYRmrm
import Derived.Test.YtidmnoafhdhhlaaGreatDoorVYRmp1
import Derived.Test.YtidmnoafhdhhlaaGreatDoorVYRmp2
set_option linter.all false
namespace Go.Proofs.Aud
noncomputable section
open Go Go.VE
set_option maxRecDepth 100000
noncomputable def ex_mad : Nat → Option I := exC 44 (iMemo mrm) (exC 16 (orM mp1 (iMemo mp2)) ex0)
theorem ex_mad_ok : ExOk ex_mad := exC_ok (memo_ok ex0_ok mrm_good mrm_run) (exC_ok (orM_ok (memo_ok ex0_ok mp1_good mp1_run) (memo_ok ex0_ok mp2_good mp2_run)) ex0_ok)
theorem mad_run : (lv (cxT ex_mad) 500).call 12 mad.args mad.h0 mad.n0 mad.chk = .fin .undef .nil 0 := by kernel_rfl
end
end Go.Proofs.Aud
