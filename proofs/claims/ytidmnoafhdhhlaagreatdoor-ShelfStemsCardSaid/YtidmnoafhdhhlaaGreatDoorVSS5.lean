/- A part of the proof of ShelfStems: the program run by the evaluator. No condition. -/
import Derived.Test.YtidmnoafhdhhlaaGreatDoorVSMain
set_option linter.all false
namespace Go.Proofs.Aud
noncomputable section
open Go Go.VE
set_option maxRecDepth 100000
theorem s20 : allR (fun j => runA [.ukn 3 15 j, .ukn 3 1 1]) 1 4 = true := by kernel_rfl
theorem s21 : allR (fun j => runA [.ukn 3 15 j, .ukn 3 1 1]) 1 5 = true := by kernel_rfl
theorem s22 : allR (fun j => runA [.ukn 3 15 j, .ukn 3 1 1]) 1 6 = true := by kernel_rfl
theorem s23 : allR (fun j => runA [.ukn 3 15 j, .ukn 3 1 1]) 1 7 = true := by kernel_rfl
end
end Go.Proofs.Aud
