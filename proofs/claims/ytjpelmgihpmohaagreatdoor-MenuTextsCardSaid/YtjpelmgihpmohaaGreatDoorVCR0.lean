/- A part of the proof of MenuTexts: the program run by the evaluator. No condition. -/
import Derived.Test.YtjpelmgihpmohaaGreatDoorVCM
set_option linter.all false
namespace Go.Proofs.Aud
noncomputable section
noncomputable section
open Go Go.VE
set_option maxRecDepth 100000
theorem m20_run:(lv (cxT exN) 500).call 16 m20.args m20.h0 m20.n0 m20.chk=.fin .undef .nil 0:=by kernel_rfl
theorem m14_run:(lv (cxT exN) 500).call 16 m14.args m14.h0 m14.n0 m14.chk=.fin .undef .nil 0:=by kernel_rfl
theorem m19_run:(lv (cxT exN) 500).call 15 m19.args m19.h0 m19.n0 m19.chk=.fin .undef .nil 0:=by kernel_rfl
theorem m10_run:(lv (cxT exN) 500).call 16 m10.args m10.h0 m10.n0 m10.chk=.fin .undef .nil 0:=by kernel_rfl
theorem m1_run:(lv (cxT exN) 500).call 15 m1.args m1.h0 m1.n0 m1.chk=.fin .undef .nil 0:=by kernel_rfl
theorem m15_run:(lv (cxT exN) 500).call 15 m15.args m15.h0 m15.n0 m15.chk=.fin .undef .nil 0:=by kernel_rfl
theorem m11_run:(lv (cxT exN) 500).call 15 m11.args m11.h0 m11.n0 m11.chk=.fin .undef .nil 0:=by kernel_rfl
theorem m7_run:(lv (cxT exN) 500).call 15 m7.args m7.h0 m7.n0 m7.chk=.fin .undef .nil 0:=by kernel_rfl
theorem m5_run:(lv (cxT exN) 500).call 15 m5.args m5.h0 m5.n0 m5.chk=.fin .undef .nil 0:=by kernel_rfl
theorem m2_run:(lv (cxT exN) 500).call 14 m2.args m2.h0 m2.n0 m2.chk=.fin .undef .nil 0:=by kernel_rfl
end
end
end Go.Proofs.Aud
