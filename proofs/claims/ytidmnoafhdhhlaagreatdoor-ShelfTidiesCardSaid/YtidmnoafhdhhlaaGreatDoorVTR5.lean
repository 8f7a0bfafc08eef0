/- A part of the proof of ShelfTidies: the program run by the evaluator. No condition. -/
import Derived.Test.YtidmnoafhdhhlaaGreatDoorVTM
set_option linter.all false
namespace Go.Proofs.Aud
noncomputable section
open Go Go.VE
set_option maxRecDepth 100000
theorem m51_run : (lv (cxT ex0) 500).call 16 m51.args m51.h0 m51.n0 m51.chk = .fin .undef .nil 0 := by kernel_rfl
theorem m61_run : (lv (cxT ex0) 500).call 16 m61.args m61.h0 m61.n0 m61.chk = .fin .undef .nil 0 := by kernel_rfl
theorem m37_run : (lv (cxT ex0) 500).call 15 m37.args m37.h0 m37.n0 m37.chk = .fin .undef .nil 0 := by kernel_rfl
theorem m79_run : (lv (cxT ex0) 500).call 15 m79.args m79.h0 m79.n0 m79.chk = .fin .undef .nil 0 := by kernel_rfl
theorem m93_run : (lv (cxT ex0) 500).call 15 m93.args m93.h0 m93.n0 m93.chk = .fin .undef .nil 0 := by kernel_rfl
theorem m15_run : (lv (cxT ex0) 500).call 33 m15.args m15.h0 m15.n0 m15.chk = .fin .undef .nil 0 := by kernel_rfl
theorem m21_run : (lv (cxT ex_m21) 500).call 44 m21.args m21.h0 m21.n0 m21.chk = .fin .undef .nil 0 := by kernel_rfl
theorem m77_run : (lv (cxT ex_m77) 500).call 12 m77.args m77.h0 m77.n0 m77.chk = .fin .undef .nil 0 := by kernel_rfl
theorem m109_run : (lv (cxT ex_m109) 500).call 17 m109.args m109.h0 m109.n0 m109.chk = .fin .undef .nil 0 := by kernel_rfl
end
end Go.Proofs.Aud
