/- A part of the proof of AuditOpens: the program run by the evaluator. No condition. -/
import Derived.Test.YtfaecnnbaeefkaaGreatDoorVYM
set_option linter.all false
namespace Go.Proofs.Aud
noncomputable section
open Go Go.VE
set_option maxRecDepth 100000
theorem m7_run : (lv (cxT ex0) 500).call 7 m7.args m7.h0 m7.n0 m7.chk = .fin .undef .nil 0 := by kernel_rfl
end
end Go.Proofs.Aud
