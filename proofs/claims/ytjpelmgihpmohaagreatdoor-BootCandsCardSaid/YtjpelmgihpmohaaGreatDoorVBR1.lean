/- A part of the proof of BootCands: the program run by the evaluator. No condition. -/
import Derived.Test.YtjpelmgihpmohaaGreatDoorVBM
set_option linter.all false
namespace Go.Proofs.Aud
noncomputable section
noncomputable section
open Go Go.VE
set_option maxRecDepth 100000
theorem m50_run:(lv (cxT exN) 500).call 7 m50.args m50.h0 m50.n0 m50.chk=.fin .undef .nil 0:=by kernel_rfl
theorem m2_run:(lv (cxT ex_m2) 500).call 13 m2.args m2.h0 m2.n0 m2.chk=.fin .undef .nil 0:=by kernel_rfl
theorem m34_run:(lv (cxT exN) 500).call 7 m34.args m34.h0 m34.n0 m34.chk=.fin .undef .nil 0:=by kernel_rfl
theorem m26_run:(lv (cxT exN) 500).call 7 m26.args m26.h0 m26.n0 m26.chk=.fin .undef .nil 0:=by kernel_rfl
theorem m32_run:(lv (cxT exN) 500).call 7 m32.args m32.h0 m32.n0 m32.chk=.fin .undef .nil 0:=by kernel_rfl
theorem m45_run:(lv (cxT exN) 500).call 7 m45.args m45.h0 m45.n0 m45.chk=.fin .undef .nil 0:=by kernel_rfl
theorem m24_run:(lv (cxT exN) 500).call 7 m24.args m24.h0 m24.n0 m24.chk=.fin .undef .nil 0:=by kernel_rfl
theorem m9_run:(lv (cxT exN) 500).call 7 m9.args m9.h0 m9.n0 m9.chk=.fin .undef .nil 0:=by kernel_rfl
theorem m8_run:(lv (cxT exN) 500).call 7 m8.args m8.h0 m8.n0 m8.chk=.fin .undef .nil 0:=by kernel_rfl
theorem m22_run:(lv (cxT exN) 500).call 7 m22.args m22.h0 m22.n0 m22.chk=.fin .undef .nil 0:=by kernel_rfl
theorem m7_run:(lv (cxT exN) 500).call 7 m7.args m7.h0 m7.n0 m7.chk=.fin .undef .nil 0:=by kernel_rfl
theorem m28_run:(lv (cxT exN) 500).call 7 m28.args m28.h0 m28.n0 m28.chk=.fin .undef .nil 0:=by kernel_rfl
theorem m0_run:(lv (cxT exN) 500).call 6 m0.args m0.h0 m0.n0 m0.chk=.fin .undef .nil 0:=by kernel_rfl
end
end
end Go.Proofs.Aud
