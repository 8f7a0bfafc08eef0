/- A part of the proof of ShelfTidies: the program run by the evaluator. No condition. -/
import Derived.Test.YtidmnoafhdhhlaaGreatDoorVTM
set_option linter.all false
namespace Go.Proofs.Aud
noncomputable section
open Go Go.VE
set_option maxRecDepth 100000
theorem m7_run : (lv (cxT ex0) 500).call 16 m7.args m7.h0 m7.n0 m7.chk = .fin .undef .nil 0 := by kernel_rfl
theorem m65_run : (lv (cxT ex0) 500).call 16 m65.args m65.h0 m65.n0 m65.chk = .fin .undef .nil 0 := by kernel_rfl
theorem m16_run : (lv (cxT ex0) 500).call 60 m16.args m16.h0 m16.n0 m16.chk = .fin .undef .nil 0 := by kernel_rfl
theorem m115_run : (lv (cxT ex0) 500).call 15 m115.args m115.h0 m115.n0 m115.chk = .fin .undef .nil 0 := by kernel_rfl
theorem m73_run : (lv (cxT ex0) 500).call 102 m73.args m73.h0 m73.n0 m73.chk = .fin .undef .nil 0 := by kernel_rfl
theorem m81_run : (lv (cxT ex0) 500).call 55 m81.args m81.h0 m81.n0 m81.chk = .fin .undef .nil 0 := by kernel_rfl
theorem m90_run : (lv (cxT ex0) 500).call 55 m90.args m90.h0 m90.n0 m90.chk = .fin .undef .nil 0 := by kernel_rfl
theorem m100_run : (lv (cxT ex_m100) 500).call 12 m100.args m100.h0 m100.n0 m100.chk = .fin .undef .nil 0 := by kernel_rfl
theorem m76_run : (lv (cxT ex_m76) 500).call 45 m76.args m76.h0 m76.n0 m76.chk = .fin .undef .nil 0 := by kernel_rfl
theorem m19_run : (lv (cxT ex_m19) 500).call 9 m19.args m19.h0 m19.n0 m19.chk = .fin .undef .nil 0 := by kernel_rfl
end
end Go.Proofs.Aud
