/- A part of the proof of ShelfArgs: the program run by the evaluator. No condition. -/
import Derived.Test.YtidmnoafhdhhlaaGreatDoorVYM
set_option linter.all false
namespace Go.Proofs.Aud
noncomputable section
open Go Go.VE
set_option maxRecDepth 100000
theorem mke_run : (lv (cxT ex0) 500).call 252 mke.args mke.h0 mke.n0 mke.chk = .fin .undef .nil 0 := by kernel_rfl
end
end Go.Proofs.Aud
