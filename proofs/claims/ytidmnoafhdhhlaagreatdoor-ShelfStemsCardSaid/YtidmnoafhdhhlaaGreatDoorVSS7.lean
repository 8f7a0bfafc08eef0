/- A part of the proof of ShelfStems: the program run by the evaluator. No condition. -/
import Derived.Test.YtidmnoafhdhhlaaGreatDoorVSMain
set_option linter.all false
namespace Go.Proofs.Aud
noncomputable section
open Go Go.VE
set_option maxRecDepth 100000
theorem s28 : allR (fun j => runA [.ukn 3 15 j, .ukn 3 1 1]) 1 12 = true := by kernel_rfl
theorem s29 : allR (fun j => runA [.ukn 3 15 j, .ukn 3 1 1]) 1 13 = true := by kernel_rfl
theorem s30 : allR (fun j => runA [.ukn 3 15 j, .ukn 3 1 1]) 1 14 = true := by kernel_rfl
theorem s31 : allR (fun j => runA [.ukn 3 15 j, .ukn 3 1 1]) 1 15 = true := by kernel_rfl
end
end Go.Proofs.Aud
