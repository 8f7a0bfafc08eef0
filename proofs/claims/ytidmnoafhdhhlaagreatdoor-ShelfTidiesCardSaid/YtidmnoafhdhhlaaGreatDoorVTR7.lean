/- A part of the proof of ShelfTidies: the program run by the evaluator. No condition. -/
import Derived.Test.YtidmnoafhdhhlaaGreatDoorVTM
set_option linter.all false
namespace Go.Proofs.Aud
noncomputable section
open Go Go.VE
set_option maxRecDepth 100000
theorem m97_run : (lv (cxT ex0) 500).call 16 m97.args m97.h0 m97.n0 m97.chk = .fin .undef .nil 0 := by kernel_rfl
theorem m107_run : (lv (cxT ex0) 500).call 16 m107.args m107.h0 m107.n0 m107.chk = .fin .undef .nil 0 := by kernel_rfl
theorem m46_run : (lv (cxT ex0) 500).call 15 m46.args m46.h0 m46.n0 m46.chk = .fin .undef .nil 0 := by kernel_rfl
theorem m87_run : (lv (cxT ex0) 500).call 15 m87.args m87.h0 m87.n0 m87.chk = .fin .undef .nil 0 := by kernel_rfl
theorem m31_run : (lv (cxT ex0) 500).call 102 m31.args m31.h0 m31.n0 m31.chk = .fin .undef .nil 0 := by kernel_rfl
theorem m28_run : (lv (cxT ex0) 500).call 102 m28.args m28.h0 m28.n0 m28.chk = .fin .undef .nil 0 := by kernel_rfl
theorem m25_run : (lv (cxT ex0) 500).call 102 m25.args m25.h0 m25.n0 m25.chk = .fin .undef .nil 0 := by kernel_rfl
theorem m6_run : (lv (cxT ex_m6) 500).call 44 m6.args m6.h0 m6.n0 m6.chk = .fin .undef .nil 0 := by kernel_rfl
theorem m54_run : (lv (cxT ex_m54) 500).call 12 m54.args m54.h0 m54.n0 m54.chk = .fin .undef .nil 0 := by kernel_rfl
theorem m36_run : (lv (cxT ex_m36) 500).call 17 m36.args m36.h0 m36.n0 m36.chk = .fin .undef .nil 0 := by kernel_rfl
end
end Go.Proofs.Aud
