/- A part of the proof of ShelfTidies: the program run by the evaluator. No condition. -/
import Derived.Test.YtidmnoafhdhhlaaGreatDoorVTM
set_option linter.all false
namespace Go.Proofs.Aud
noncomputable section
open Go Go.VE
set_option maxRecDepth 100000
theorem m49_run : (lv (cxT ex0) 500).call 16 m49.args m49.h0 m49.n0 m49.chk = .fin .undef .nil 0 := by kernel_rfl
theorem m88_run : (lv (cxT ex0) 500).call 16 m88.args m88.h0 m88.n0 m88.chk = .fin .undef .nil 0 := by kernel_rfl
theorem m13_run : (lv (cxT ex0) 500).call 15 m13.args m13.h0 m13.n0 m13.chk = .fin .undef .nil 0 := by kernel_rfl
theorem m69_run : (lv (cxT ex0) 500).call 15 m69.args m69.h0 m69.n0 m69.chk = .fin .undef .nil 0 := by kernel_rfl
theorem m47_run : (lv (cxT ex0) 500).call 15 m47.args m47.h0 m47.n0 m47.chk = .fin .undef .nil 0 := by kernel_rfl
theorem m30_run : (lv (cxT ex_m30) 500).call 27 m30.args m30.h0 m30.n0 m30.chk = .fin .undef .nil 0 := by kernel_rfl
theorem m44_run : (lv (cxT ex0) 500).call 55 m44.args m44.h0 m44.n0 m44.chk = .fin .undef .nil 0 := by kernel_rfl
theorem m86_run : (lv (cxT ex_m86) 500).call 17 m86.args m86.h0 m86.n0 m86.chk = .fin .undef .nil 0 := by kernel_rfl
end
end Go.Proofs.Aud
