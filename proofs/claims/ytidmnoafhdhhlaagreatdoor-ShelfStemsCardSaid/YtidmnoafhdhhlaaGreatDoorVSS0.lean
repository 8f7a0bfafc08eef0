/- A part of the proof of ShelfStems: the program run by the evaluator. No condition. -/
import Derived.Test.YtidmnoafhdhhlaaGreatDoorVSMain
set_option linter.all false
namespace Go.Proofs.Aud
noncomputable section
open Go Go.VE
set_option maxRecDepth 100000
theorem s0 : allR (fun j => runA [.ukn 3 15 j, .ukn 3 1 0]) 1 0 = true := by kernel_rfl
theorem s1 : allR (fun j => runA [.ukn 3 15 j, .ukn 3 1 0]) 1 1 = true := by kernel_rfl
theorem s2 : allR (fun j => runA [.ukn 3 15 j, .ukn 3 1 0]) 1 2 = true := by kernel_rfl
theorem s3 : allR (fun j => runA [.ukn 3 15 j, .ukn 3 1 0]) 1 3 = true := by kernel_rfl
end
end Go.Proofs.Aud
