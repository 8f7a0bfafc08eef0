/- A part of the proof of ShelfTidies: the program run by the evaluator. No condition. -/
import Derived.Test.YtidmnoafhdhhlaaGreatDoorVTM
set_option linter.all false
namespace Go.Proofs.Aud
noncomputable section
open Go Go.VE
set_option maxRecDepth 100000
theorem m72_run : (lv (cxT ex0) 500).call 16 m72.args m72.h0 m72.n0 m72.chk = .fin .undef .nil 0 := by kernel_rfl
theorem m111_run : (lv (cxT ex0) 500).call 16 m111.args m111.h0 m111.n0 m111.chk = .fin .undef .nil 0 := by kernel_rfl
theorem m14_run : (lv (cxT ex0) 500).call 15 m14.args m14.h0 m14.n0 m14.chk = .fin .undef .nil 0 := by kernel_rfl
theorem m78_run : (lv (cxT ex0) 500).call 15 m78.args m78.h0 m78.n0 m78.chk = .fin .undef .nil 0 := by kernel_rfl
theorem m70_run : (lv (cxT ex0) 500).call 15 m70.args m70.h0 m70.n0 m70.chk = .fin .undef .nil 0 := by kernel_rfl
theorem m0_run : (lv (cxT ex0) 500).call 33 m0.args m0.h0 m0.n0 m0.chk = .fin .undef .nil 0 := by kernel_rfl
theorem m113_run : (lv (cxT ex0) 500).call 55 m113.args m113.h0 m113.n0 m113.chk = .fin .undef .nil 0 := by kernel_rfl
theorem m63_run : (lv (cxT ex_m63) 500).call 17 m63.args m63.h0 m63.n0 m63.chk = .fin .undef .nil 0 := by kernel_rfl
end
end Go.Proofs.Aud
