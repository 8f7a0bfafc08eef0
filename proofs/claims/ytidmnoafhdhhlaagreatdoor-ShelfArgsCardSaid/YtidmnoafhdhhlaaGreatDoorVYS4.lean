/- A part of the proof of ShelfArgs: the program run by the evaluator. No condition. -/
import Derived.Test.YtidmnoafhdhhlaaGreatDoorVYMain
set_option linter.all false
namespace Go.Proofs.Aud
noncomputable section
open Go Go.VE
set_option maxRecDepth 100000
theorem s4 : allR (fun j => runA [.ukn 3 7 4, .ukn 3 3 j]) 4 0 = true := by kernel_rfl
theorem s5 : allR (fun j => runA [.ukn 3 7 5, .ukn 3 3 j]) 4 0 = true := by kernel_rfl
theorem s6 : allR (fun j => runA [.ukn 3 7 6, .ukn 3 3 j]) 4 0 = true := by kernel_rfl
theorem s7 : allR (fun j => runA [.ukn 3 7 7, .ukn 3 3 j]) 4 0 = true := by kernel_rfl
end
end Go.Proofs.Aud
