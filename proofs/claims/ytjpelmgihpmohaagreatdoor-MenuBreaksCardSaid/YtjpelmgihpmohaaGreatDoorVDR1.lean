/- A part of the proof of MenuBreaks: the program run by the evaluator. No condition. -/
import Derived.Test.YtjpelmgihpmohaaGreatDoorVDM
set_option linter.all false
namespace Go.Proofs.Aud
noncomputable section
noncomputable section
open Go Go.VE
set_option maxRecDepth 100000
theorem m24_run:(lv (cxT exN) 500).call 19 m24.args m24.h0 m24.n0 m24.chk=.fin .undef .nil 0:=by kernel_rfl
theorem m26_run:(lv (cxT exN) 500).call 16 m26.args m26.h0 m26.n0 m26.chk=.fin .undef .nil 0:=by kernel_rfl
theorem m20_run:(lv (cxT exN) 500).call 16 m20.args m20.h0 m20.n0 m20.chk=.fin .undef .nil 0:=by kernel_rfl
theorem m14_run:(lv (cxT exN) 500).call 16 m14.args m14.h0 m14.n0 m14.chk=.fin .undef .nil 0:=by kernel_rfl
theorem m22_run:(lv (cxT exN) 500).call 15 m22.args m22.h0 m22.n0 m22.chk=.fin .undef .nil 0:=by kernel_rfl
theorem m19_run:(lv (cxT exN) 500).call 15 m19.args m19.h0 m19.n0 m19.chk=.fin .undef .nil 0:=by kernel_rfl
theorem m10_run:(lv (cxT exN) 500).call 15 m10.args m10.h0 m10.n0 m10.chk=.fin .undef .nil 0:=by kernel_rfl
theorem m0_run:(lv (cxT exN) 500).call 14 m0.args m0.h0 m0.n0 m0.chk=.fin .undef .nil 0:=by kernel_rfl
theorem m3_run:(lv (cxT exN) 500).call 16 m3.args m3.h0 m3.n0 m3.chk=.fin .undef .nil 0:=by kernel_rfl
end
end
end Go.Proofs.Aud
