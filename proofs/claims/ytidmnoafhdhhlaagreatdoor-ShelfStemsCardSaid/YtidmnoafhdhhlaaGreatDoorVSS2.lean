/- A part of the proof of ShelfStems: the program run by the evaluator. No condition. -/
import Derived.Test.YtidmnoafhdhhlaaGreatDoorVSMain
set_option linter.all false
namespace Go.Proofs.Aud
noncomputable section
open Go Go.VE
set_option maxRecDepth 100000
theorem s8 : allR (fun j => runA [.ukn 3 15 j, .ukn 3 1 0]) 1 8 = true := by kernel_rfl
theorem s9 : allR (fun j => runA [.ukn 3 15 j, .ukn 3 1 0]) 1 9 = true := by kernel_rfl
theorem s10 : allR (fun j => runA [.ukn 3 15 j, .ukn 3 1 0]) 1 10 = true := by kernel_rfl
theorem s11 : allR (fun j => runA [.ukn 3 15 j, .ukn 3 1 0]) 1 11 = true := by kernel_rfl
end
end Go.Proofs.Aud
