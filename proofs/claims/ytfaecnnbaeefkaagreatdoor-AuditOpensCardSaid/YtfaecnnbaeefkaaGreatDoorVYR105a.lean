/- A part of the proof of AuditOpens: the program run by the evaluator. No condition. -/
import Derived.Test.YtfaecnnbaeefkaaGreatDoorVYM
set_option linter.all false
namespace Go.Proofs.Aud
noncomputable section
open Go Go.VE
set_option maxRecDepth 100000
theorem m105a_run : (lv (cxT ex0) 500).call 105 m105a.args m105a.h0 m105a.n0 m105a.chk = .fin .undef .nil 0 := by kernel_rfl
end
end Go.Proofs.Aud
