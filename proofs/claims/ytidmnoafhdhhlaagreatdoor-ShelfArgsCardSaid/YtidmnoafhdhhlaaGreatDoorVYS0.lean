/- A part of the proof of ShelfArgs: the program run by the evaluator. No condition. -/
import Derived.Test.YtidmnoafhdhhlaaGreatDoorVYMain
set_option linter.all false
namespace Go.Proofs.Aud
noncomputable section
open Go Go.VE
set_option maxRecDepth 100000
theorem s0a : allR (fun j => runA [.ukn 3 7 0, .ukn 3 255 j]) 128 0 = true := by kernel_rfl
theorem s0b : allR (fun j => runA [.ukn 3 7 0, .ukn 3 255 j]) 128 128 = true := by kernel_rfl
end
end Go.Proofs.Aud
