/- A part of the proof of MenuBreaks: the program run by the evaluator. No condition. -/
import Derived.Test.YtjpelmgihpmohaaGreatDoorVDM
set_option linter.all false
namespace Go.Proofs.Aud
noncomputable section
noncomputable section
open Go Go.VE
set_option maxRecDepth 100000
theorem m21_run:(lv (cxT exN) 500).call 19 m21.args m21.h0 m21.n0 m21.chk=.fin .undef .nil 0:=by kernel_rfl
theorem m18_run:(lv (cxT exN) 500).call 19 m18.args m18.h0 m18.n0 m18.chk=.fin .undef .nil 0:=by kernel_rfl
theorem m15_run:(lv (cxT exN) 500).call 19 m15.args m15.h0 m15.n0 m15.chk=.fin .undef .nil 0:=by kernel_rfl
theorem m17_run:(lv (cxT exN) 500).call 16 m17.args m17.h0 m17.n0 m17.chk=.fin .undef .nil 0:=by kernel_rfl
theorem m1_run:(lv (cxT exN) 500).call 15 m1.args m1.h0 m1.n0 m1.chk=.fin .undef .nil 0:=by kernel_rfl
theorem m16_run:(lv (cxT exN) 500).call 15 m16.args m16.h0 m16.n0 m16.chk=.fin .undef .nil 0:=by kernel_rfl
theorem m8_run:(lv (cxT exN) 500).call 15 m8.args m8.h0 m8.n0 m8.chk=.fin .undef .nil 0:=by kernel_rfl
theorem m2_run:(lv (cxT exN) 500).call 15 m2.args m2.h0 m2.n0 m2.chk=.fin .undef .nil 0:=by kernel_rfl
theorem m7_run:(lv (cxT ex_m7) 500).call 23 m7.args m7.h0 m7.n0 m7.chk=.fin .undef .nil 0:=by kernel_rfl
theorem m6_run:(lv (cxT exN) 500).call 16 m6.args m6.h0 m6.n0 m6.chk=.fin .undef .nil 0:=by kernel_rfl
end
end
end Go.Proofs.Aud
