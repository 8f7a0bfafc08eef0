/- A part of the proof of ShelfTidies: the program run by the evaluator. No condition. -/
import Derived.Test.YtidmnoafhdhhlaaGreatDoorVTM
set_option linter.all false
namespace Go.Proofs.Aud
noncomputable section
open Go Go.VE
set_option maxRecDepth 100000
theorem m80_run : (lv (cxT ex0) 500).call 16 m80.args m80.h0 m80.n0 m80.chk = .fin .undef .nil 0 := by kernel_rfl
theorem m22_run : (lv (cxT ex0) 500).call 16 m22.args m22.h0 m22.n0 m22.chk = .fin .undef .nil 0 := by kernel_rfl
theorem m56_run : (lv (cxT ex0) 500).call 15 m56.args m56.h0 m56.n0 m56.chk = .fin .undef .nil 0 := by kernel_rfl
theorem m101_run : (lv (cxT ex0) 500).call 15 m101.args m101.h0 m101.n0 m101.chk = .fin .undef .nil 0 := by kernel_rfl
theorem m75_run : (lv (cxT ex0) 500).call 102 m75.args m75.h0 m75.n0 m75.chk = .fin .undef .nil 0 := by kernel_rfl
theorem m35_run : (lv (cxT ex0) 500).call 55 m35.args m35.h0 m35.n0 m35.chk = .fin .undef .nil 0 := by kernel_rfl
theorem m23_run : (lv (cxT ex0) 500).call 102 m23.args m23.h0 m23.n0 m23.chk = .fin .undef .nil 0 := by kernel_rfl
theorem m48_run : (lv (cxT ex_m48) 500).call 44 m48.args m48.h0 m48.n0 m48.chk = .fin .undef .nil 0 := by kernel_rfl
theorem m26_run : (lv (cxT ex_m26) 500).call 45 m26.args m26.h0 m26.n0 m26.chk = .fin .undef .nil 0 := by kernel_rfl
theorem m82_run : (lv (cxT ex_m82) 500).call 17 m82.args m82.h0 m82.n0 m82.chk = .fin .undef .nil 0 := by kernel_rfl
theorem m18_run : (lv (cxT ex_m18) 500).call 19 m18.args m18.h0 m18.n0 m18.chk = .fin .undef .nil 0 := by kernel_rfl
end
end Go.Proofs.Aud
