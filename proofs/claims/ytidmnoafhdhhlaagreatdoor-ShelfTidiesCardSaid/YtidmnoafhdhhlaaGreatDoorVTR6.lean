/- A part of the proof of ShelfTidies: the program run by the evaluator. No condition. -/
import Derived.Test.YtidmnoafhdhhlaaGreatDoorVTM
set_option linter.all false
namespace Go.Proofs.Aud
noncomputable section
open Go Go.VE
set_option maxRecDepth 100000
theorem m74_run : (lv (cxT ex0) 500).call 16 m74.args m74.h0 m74.n0 m74.chk = .fin .undef .nil 0 := by kernel_rfl
theorem m84_run : (lv (cxT ex0) 500).call 16 m84.args m84.h0 m84.n0 m84.chk = .fin .undef .nil 0 := by kernel_rfl
theorem m41_run : (lv (cxT ex0) 500).call 15 m41.args m41.h0 m41.n0 m41.chk = .fin .undef .nil 0 := by kernel_rfl
theorem m83_run : (lv (cxT ex0) 500).call 15 m83.args m83.h0 m83.n0 m83.chk = .fin .undef .nil 0 := by kernel_rfl
theorem m20_run : (lv (cxT ex0) 500).call 15 m20.args m20.h0 m20.n0 m20.chk = .fin .undef .nil 0 := by kernel_rfl
theorem m104_run : (lv (cxT ex0) 500).call 55 m104.args m104.h0 m104.n0 m104.chk = .fin .undef .nil 0 := by kernel_rfl
theorem m33_run : (lv (cxT ex_m33) 500).call 14 m33.args m33.h0 m33.n0 m33.chk = .fin .undef .nil 0 := by kernel_rfl
theorem m53_run : (lv (cxT ex_m53) 500).call 45 m53.args m53.h0 m53.n0 m53.chk = .fin .undef .nil 0 := by kernel_rfl
theorem m4_run : (lv (cxT ex_m4) 500).call 9 m4.args m4.h0 m4.n0 m4.chk = .fin .undef .nil 0 := by kernel_rfl
end
end Go.Proofs.Aud
