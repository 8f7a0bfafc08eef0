/- A part of the proof of AuditOpens: the program run by the evaluator. No condition. -/
import Derived.Test.YtfaecnnbaeefkaaGreatDoorVYM
import Derived.Test.YtfaecnnbaeefkaaGreatDoorVYR105a
import Derived.Test.YtfaecnnbaeefkaaGreatDoorVYR105b
set_option linter.all false
namespace Go.Proofs.Aud
noncomputable section
open Go Go.VE
set_option maxRecDepth 100000
noncomputable def ex24 : Nat → Option I := exC 105 (orM m105a (iMemo m105b)) ex0
theorem ex24_ok : ExOk ex24 := exC_ok (orM_ok (memo_ok ex0_ok m105a_good m105a_run) (memo_ok ex0_ok m105b_good m105b_run)) ex0_ok
theorem m24_run : (lv (cxT ex24) 500).call 24 m24.args m24.h0 m24.n0 m24.chk = .fin .undef .nil 0 := by kernel_rfl
end
end Go.Proofs.Aud
