/- A part of the proof of ShelfTidies: the program run by the evaluator. No condition. -/
import Derived.Test.YtidmnoafhdhhlaaGreatDoorVTM
set_option linter.all false
namespace Go.Proofs.Aud
noncomputable section
open Go Go.VE
set_option maxRecDepth 100000
theorem m57_run : (lv (cxT ex0) 500).call 16 m57.args m57.h0 m57.n0 m57.chk = .fin .undef .nil 0 := by kernel_rfl
theorem m24_run : (lv (cxT ex0) 500).call 16 m24.args m24.h0 m24.n0 m24.chk = .fin .undef .nil 0 := by kernel_rfl
theorem m60_run : (lv (cxT ex0) 500).call 15 m60.args m60.h0 m60.n0 m60.chk = .fin .undef .nil 0 := by kernel_rfl
theorem m102_run : (lv (cxT ex0) 500).call 15 m102.args m102.h0 m102.n0 m102.chk = .fin .undef .nil 0 := by kernel_rfl
theorem m98_run : (lv (cxT ex0) 500).call 102 m98.args m98.h0 m98.n0 m98.chk = .fin .undef .nil 0 := by kernel_rfl
theorem m43_run : (lv (cxT ex0) 500).call 55 m43.args m43.h0 m43.n0 m43.chk = .fin .undef .nil 0 := by kernel_rfl
theorem m62_run : (lv (cxT ex0) 500).call 55 m62.args m62.h0 m62.n0 m62.chk = .fin .undef .nil 0 := by kernel_rfl
theorem m39_run : (lv (cxT ex0) 500).call 55 m39.args m39.h0 m39.n0 m39.chk = .fin .undef .nil 0 := by kernel_rfl
theorem m40_run : (lv (cxT ex_m40) 500).call 17 m40.args m40.h0 m40.n0 m40.chk = .fin .undef .nil 0 := by kernel_rfl
end
end Go.Proofs.Aud
