/- A part of the proof of AuditOpens: the program run by the evaluator. No condition. -/
import Derived.Test.YtfaecnnbaeefkaaGreatDoorVYM
set_option linter.all false
namespace Go.Proofs.Aud
noncomputable section
open Go Go.VE
set_option maxRecDepth 100000
theorem m8_run : (lv (cxT ex0) 500).call 8 m8.args m8.h0 m8.n0 m8.chk = .fin .undef .nil 0 := by kernel_rfl
end
end Go.Proofs.Aud
