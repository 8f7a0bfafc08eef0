/- A part of the proof of ShelfStems: the program run by the evaluator. No condition. -/
import Derived.Test.YtidmnoafhdhhlaaGreatDoorVSM
set_option linter.all false
namespace Go.Proofs.Aud
noncomputable section
open Go Go.VE
set_option maxRecDepth 100000
theorem m2_run : (lv (cxT ex_m2) 500).call 14 m2.args m2.h0 m2.n0 m2.chk = .fin .undef .nil 0 := by kernel_rfl
theorem m1_run : (lv (cxT exN) 500).call 12 m1.args m1.h0 m1.n0 m1.chk = .fin .undef .nil 0 := by kernel_rfl
theorem m0_run : (lv (cxT exN) 500).call 12 m0.args m0.h0 m0.n0 m0.chk = .fin .undef .nil 0 := by kernel_rfl
end
end Go.Proofs.Aud
