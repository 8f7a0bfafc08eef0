/- A part of the proof of ShelfArgs: the program run by the evaluator. No condition. -/
import Derived.Test.YtidmnoafhdhhlaaGreatDoorVYM
set_option linter.all false
namespace Go.Proofs.Aud
noncomputable section
open Go Go.VE
set_option maxRecDepth 100000
theorem mk1_run : (lv (cxT ex0) 500).call 60 mk1.args mk1.h0 mk1.n0 mk1.chk = .fin .undef .nil 0 := by kernel_rfl
end
end Go.Proofs.Aud
