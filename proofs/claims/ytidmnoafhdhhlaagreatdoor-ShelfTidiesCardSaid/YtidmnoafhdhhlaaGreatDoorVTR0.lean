/- A part of the proof of ShelfTidies: the program run by the evaluator. No condition. -/
import Derived.Test.YtidmnoafhdhhlaaGreatDoorVTM
set_option linter.all false
namespace Go.Proofs.Aud
noncomputable section
open Go Go.VE
set_option maxRecDepth 100000
theorem m34_run : (lv (cxT ex0) 500).call 16 m34.args m34.h0 m34.n0 m34.chk = .fin .undef .nil 0 := by kernel_rfl
theorem m38_run : (lv (cxT ex0) 500).call 16 m38.args m38.h0 m38.n0 m38.chk = .fin .undef .nil 0 := by kernel_rfl
theorem m64_run : (lv (cxT ex0) 500).call 15 m64.args m64.h0 m64.n0 m64.chk = .fin .undef .nil 0 := by kernel_rfl
theorem m106_run : (lv (cxT ex0) 500).call 15 m106.args m106.h0 m106.n0 m106.chk = .fin .undef .nil 0 := by kernel_rfl
theorem m8_run : (lv (cxT ex0) 500).call 102 m8.args m8.h0 m8.n0 m8.chk = .fin .undef .nil 0 := by kernel_rfl
theorem m58_run : (lv (cxT ex0) 500).call 55 m58.args m58.h0 m58.n0 m58.chk = .fin .undef .nil 0 := by kernel_rfl
theorem m67_run : (lv (cxT ex0) 500).call 55 m67.args m67.h0 m67.n0 m67.chk = .fin .undef .nil 0 := by kernel_rfl
theorem m32_run : (lv (cxT ex_m32) 500).call 26 m32.args m32.h0 m32.n0 m32.chk = .fin .undef .nil 0 := by kernel_rfl
theorem m12_run : (lv (cxT ex_m12) 500).call 12 m12.args m12.h0 m12.n0 m12.chk = .fin .undef .nil 0 := by kernel_rfl
theorem m68_run : (lv (cxT ex_m68) 500).call 17 m68.args m68.h0 m68.n0 m68.chk = .fin .undef .nil 0 := by kernel_rfl
theorem m3_run : (lv (cxT ex_m3) 500).call 19 m3.args m3.h0 m3.n0 m3.chk = .fin .undef .nil 0 := by kernel_rfl
end
end Go.Proofs.Aud
