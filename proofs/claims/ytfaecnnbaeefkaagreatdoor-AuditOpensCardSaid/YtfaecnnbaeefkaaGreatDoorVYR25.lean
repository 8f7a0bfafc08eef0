/- A part of the proof of AuditOpens: the program run by the evaluator. No condition. -/
import Derived.Test.YtfaecnnbaeefkaaGreatDoorVYM
set_option linter.all false
namespace Go.Proofs.Aud
noncomputable section
open Go Go.VE
set_option maxRecDepth 100000
theorem m25_run : (lv (cxT ex0) 500).call 25 m25.args m25.h0 m25.n0 m25.chk = .fin .undef .nil 0 := by kernel_rfl
end
end Go.Proofs.Aud
