/- A part of the proof of ShelfTidies: the program run by the evaluator. No condition. -/
import Derived.Test.YtidmnoafhdhhlaaGreatDoorVTMain
set_option linter.all false
namespace Go.Proofs.Aud
noncomputable section
open Go Go.VE
set_option maxRecDepth 100000
theorem s0 : allR (fun j => runA [.ukn 3 3 j, .ukn 3 3 0]) 4 0 = true := by kernel_rfl
end
end Go.Proofs.Aud
