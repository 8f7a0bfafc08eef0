/- A part of the proof of AuditOpens: the program run by the evaluator. No condition. -/
import Derived.Test.YtfaecnnbaeefkaaGreatDoorVYMain
set_option linter.all false
namespace Go.Proofs.Aud
noncomputable section
open Go Go.VE
set_option maxRecDepth 100000
theorem s3 (u : Nat) : allR (runV u) 64 192 = true := by kernel_rfl
end
end Go.Proofs.Aud
