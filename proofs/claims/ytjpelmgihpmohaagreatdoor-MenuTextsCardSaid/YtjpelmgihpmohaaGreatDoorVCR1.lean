/- A part of the proof of MenuTexts: the program run by the evaluator. No condition. -/
import Derived.Test.YtjpelmgihpmohaaGreatDoorVCM
set_option linter.all false
namespace Go.Proofs.Aud
noncomputable section
noncomputable section
open Go Go.VE
set_option maxRecDepth 100000
theorem m18_run:(lv (cxT exN) 500).call 16 m18.args m18.h0 m18.n0 m18.chk=.fin .undef .nil 0:=by kernel_rfl
theorem m16_run:(lv (cxT exN) 500).call 16 m16.args m16.h0 m16.n0 m16.chk=.fin .undef .nil 0:=by kernel_rfl
theorem m12_run:(lv (cxT exN) 500).call 16 m12.args m12.h0 m12.n0 m12.chk=.fin .undef .nil 0:=by kernel_rfl
theorem m17_run:(lv (cxT exN) 500).call 15 m17.args m17.h0 m17.n0 m17.chk=.fin .undef .nil 0:=by kernel_rfl
theorem m3_run:(lv (cxT exN) 500).call 15 m3.args m3.h0 m3.n0 m3.chk=.fin .undef .nil 0:=by kernel_rfl
theorem m13_run:(lv (cxT exN) 500).call 15 m13.args m13.h0 m13.n0 m13.chk=.fin .undef .nil 0:=by kernel_rfl
theorem m9_run:(lv (cxT exN) 500).call 15 m9.args m9.h0 m9.n0 m9.chk=.fin .undef .nil 0:=by kernel_rfl
theorem m8_run:(lv (cxT exN) 500).call 16 m8.args m8.h0 m8.n0 m8.chk=.fin .undef .nil 0:=by kernel_rfl
theorem m0_run:(lv (cxT exN) 500).call 14 m0.args m0.h0 m0.n0 m0.chk=.fin .undef .nil 0:=by kernel_rfl
theorem m4_run:(lv (cxT ex_m4) 500).call 23 m4.args m4.h0 m4.n0 m4.chk=.fin .undef .nil 0:=by kernel_rfl
theorem m6_run:(lv (cxT exN) 500).call 16 m6.args m6.h0 m6.n0 m6.chk=.fin .undef .nil 0:=by kernel_rfl
end
end
end Go.Proofs.Aud
