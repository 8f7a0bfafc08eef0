/- A part of the proof of ShelfTidies: the program run by the evaluator. No condition. -/
import Derived.Test.YtidmnoafhdhhlaaGreatDoorVTM
set_option linter.all false
namespace Go.Proofs.Aud
noncomputable section
open Go Go.VE
set_option maxRecDepth 100000
theorem m103_run : (lv (cxT ex0) 500).call 16 m103.args m103.h0 m103.n0 m103.chk = .fin .undef .nil 0 := by kernel_rfl
theorem m2_run : (lv (cxT ex0) 500).call 60 m2.args m2.h0 m2.n0 m2.chk = .fin .undef .nil 0 := by kernel_rfl
theorem m1_run : (lv (cxT ex0) 500).call 60 m1.args m1.h0 m1.n0 m1.chk = .fin .undef .nil 0 := by kernel_rfl
theorem m110_run : (lv (cxT ex0) 500).call 15 m110.args m110.h0 m110.n0 m110.chk = .fin .undef .nil 0 := by kernel_rfl
theorem m50_run : (lv (cxT ex0) 500).call 102 m50.args m50.h0 m50.n0 m50.chk = .fin .undef .nil 0 := by kernel_rfl
theorem m66_run : (lv (cxT ex0) 500).call 55 m66.args m66.h0 m66.n0 m66.chk = .fin .undef .nil 0 := by kernel_rfl
theorem m85_run : (lv (cxT ex0) 500).call 55 m85.args m85.h0 m85.n0 m85.chk = .fin .undef .nil 0 := by kernel_rfl
theorem m94_run : (lv (cxT ex_m94) 500).call 44 m94.args m94.h0 m94.n0 m94.chk = .fin .undef .nil 0 := by kernel_rfl
theorem m59_run : (lv (cxT ex_m59) 500).call 17 m59.args m59.h0 m59.n0 m59.chk = .fin .undef .nil 0 := by kernel_rfl
theorem m91_run : (lv (cxT ex_m91) 500).call 17 m91.args m91.h0 m91.n0 m91.chk = .fin .undef .nil 0 := by kernel_rfl
end
end Go.Proofs.Aud
