/- A part of the proof of AuditOpens: the program run by the evaluator. No condition. -/
import Derived.Test.YtfaecnnbaeefkaaGreatDoorVYM
set_option linter.all false
namespace Go.Proofs.Aud
noncomputable section
open Go Go.VE
set_option maxRecDepth 100000
theorem m5a_run : (lv (cxT ex0) 500).call 5 m5a.args m5a.h0 m5a.n0 m5a.chk = .fin .undef .nil 0 := by kernel_rfl
end
end Go.Proofs.Aud
