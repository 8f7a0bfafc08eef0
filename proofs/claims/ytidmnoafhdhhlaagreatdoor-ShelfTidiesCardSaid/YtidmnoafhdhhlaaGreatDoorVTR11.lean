/- A part of the proof of ShelfTidies: the program run by the evaluator. No condition. -/
import Derived.Test.YtidmnoafhdhhlaaGreatDoorVTM
set_option linter.all false
namespace Go.Proofs.Aud
noncomputable section
open Go Go.VE
set_option maxRecDepth 100000
theorem m95_run : (lv (cxT ex0) 500).call 16 m95.args m95.h0 m95.n0 m95.chk = .fin .undef .nil 0 := by kernel_rfl
theorem m42_run : (lv (cxT ex0) 500).call 16 m42.args m42.h0 m42.n0 m42.chk = .fin .undef .nil 0 := by kernel_rfl
theorem m17_run : (lv (cxT ex0) 500).call 60 m17.args m17.h0 m17.n0 m17.chk = .fin .undef .nil 0 := by kernel_rfl
theorem m5_run : (lv (cxT ex0) 500).call 15 m5.args m5.h0 m5.n0 m5.chk = .fin .undef .nil 0 := by kernel_rfl
theorem m96_run : (lv (cxT ex0) 500).call 102 m96.args m96.h0 m96.n0 m96.chk = .fin .undef .nil 0 := by kernel_rfl
theorem m89_run : (lv (cxT ex0) 500).call 55 m89.args m89.h0 m89.n0 m89.chk = .fin .undef .nil 0 := by kernel_rfl
theorem m108_run : (lv (cxT ex0) 500).call 55 m108.args m108.h0 m108.n0 m108.chk = .fin .undef .nil 0 := by kernel_rfl
theorem m27_run : (lv (cxT ex_m27) 500).call 12 m27.args m27.h0 m27.n0 m27.chk = .fin .undef .nil 0 := by kernel_rfl
theorem m99_run : (lv (cxT ex_m99) 500).call 45 m99.args m99.h0 m99.n0 m99.chk = .fin .undef .nil 0 := by kernel_rfl
theorem m45_run : (lv (cxT ex_m45) 500).call 17 m45.args m45.h0 m45.n0 m45.chk = .fin .undef .nil 0 := by kernel_rfl
theorem m114_run : (lv (cxT ex_m114) 500).call 17 m114.args m114.h0 m114.n0 m114.chk = .fin .undef .nil 0 := by kernel_rfl
end
end Go.Proofs.Aud
