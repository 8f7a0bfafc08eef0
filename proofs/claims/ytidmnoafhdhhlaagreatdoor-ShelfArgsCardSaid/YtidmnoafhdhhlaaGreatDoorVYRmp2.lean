/- A part of the proof of ShelfArgs: the program run by the evaluator. No condition. -/
import Derived.Test.YtidmnoafhdhhlaaGreatDoorVYM
set_option linter.all false
namespace Go.Proofs.Aud
noncomputable section
open Go Go.VE
set_option maxRecDepth 100000
theorem mp2_run : (lv (cxT ex0) 500).call 16 mp2.args mp2.h0 mp2.n0 mp2.chk = .fin .undef .nil 0 := by kernel_rfl
end
end Go.Proofs.Aud
