/- A part of the proof of AuditOpens: the program run by the evaluator. No condition. -/
import Derived.Test.YtfaecnnbaeefkaaGreatDoorVYM
import Derived.Test.YtfaecnnbaeefkaaGreatDoorVYR24
import Derived.Test.YtfaecnnbaeefkaaGreatDoorVYR25
import Derived.Test.YtfaecnnbaeefkaaGreatDoorVYR8
import Derived.Test.YtfaecnnbaeefkaaGreatDoorVYR5b
set_option linter.all false
namespace Go.Proofs.Aud
noncomputable section
open Go Go.VE
set_option maxRecDepth 100000
noncomputable def ex10 : Nat → Option I := exC 24 (iMemo m24) (exC 25 (iMemo m25) (exC 8 (iMemo m8) (exC 5 (iMemo m5b) ex0)))
theorem ex10_ok : ExOk ex10 := exC_ok (memo_ok ex24_ok m24_good m24_run) (exC_ok (memo_ok ex0_ok m25_good m25_run) (exC_ok (memo_ok ex0_ok m8_good m8_run) (exC_ok (memo_ok ex0_ok m5b_good m5b_run) ex0_ok)))
theorem m10_run : (lv (cxT ex10) 500).call 10 m10.args m10.h0 m10.n0 m10.chk = .fin .undef .nil 0 := by kernel_rfl
end
end Go.Proofs.Aud
