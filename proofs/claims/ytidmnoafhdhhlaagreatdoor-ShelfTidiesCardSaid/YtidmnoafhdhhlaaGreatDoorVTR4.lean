/- A part of the proof of ShelfTidies: the program run by the evaluator. No condition. -/
import Derived.Test.YtidmnoafhdhhlaaGreatDoorVTM
set_option linter.all false
namespace Go.Proofs.Aud
noncomputable section
open Go Go.VE
set_option maxRecDepth 100000
theorem m9_run : (lv (cxT ex0) 500).call 16 m9.args m9.h0 m9.n0 m9.chk = .fin .undef .nil 0 := by kernel_rfl
theorem m29_run : (lv (cxT ex0) 500).call 252 m29.args m29.h0 m29.n0 m29.chk = .fin .undef .nil 0 := by kernel_rfl
theorem m55_run : (lv (cxT ex0) 500).call 15 m55.args m55.h0 m55.n0 m55.chk = .fin .undef .nil 0 := by kernel_rfl
theorem m92_run : (lv (cxT ex0) 500).call 15 m92.args m92.h0 m92.n0 m92.chk = .fin .undef .nil 0 := by kernel_rfl
theorem m52_run : (lv (cxT ex0) 500).call 102 m52.args m52.h0 m52.n0 m52.chk = .fin .undef .nil 0 := by kernel_rfl
theorem m10_run : (lv (cxT ex0) 500).call 102 m10.args m10.h0 m10.n0 m10.chk = .fin .undef .nil 0 := by kernel_rfl
theorem m112_run : (lv (cxT ex0) 500).call 55 m112.args m112.h0 m112.n0 m112.chk = .fin .undef .nil 0 := by kernel_rfl
theorem m71_run : (lv (cxT ex_m71) 500).call 44 m71.args m71.h0 m71.n0 m71.chk = .fin .undef .nil 0 := by kernel_rfl
theorem m11_run : (lv (cxT ex_m11) 500).call 45 m11.args m11.h0 m11.n0 m11.chk = .fin .undef .nil 0 := by kernel_rfl
theorem m105_run : (lv (cxT ex_m105) 500).call 17 m105.args m105.h0 m105.n0 m105.chk = .fin .undef .nil 0 := by kernel_rfl
end
end Go.Proofs.Aud
