/- A part of the proof of MenuBreaks: the program run by the evaluator. No condition. -/
import Derived.Test.YtjpelmgihpmohaaGreatDoorVDM
set_option linter.all false
namespace Go.Proofs.Aud
noncomputable section
noncomputable section
open Go Go.VE
set_option maxRecDepth 100000
theorem m27_run:(lv (cxT exN) 500).call 19 m27.args m27.h0 m27.n0 m27.chk=.fin .undef .nil 0:=by kernel_rfl
theorem m23_run:(lv (cxT exN) 500).call 16 m23.args m23.h0 m23.n0 m23.chk=.fin .undef .nil 0:=by kernel_rfl
theorem m12_run:(lv (cxT exN) 500).call 19 m12.args m12.h0 m12.n0 m12.chk=.fin .undef .nil 0:=by kernel_rfl
theorem m25_run:(lv (cxT exN) 500).call 15 m25.args m25.h0 m25.n0 m25.chk=.fin .undef .nil 0:=by kernel_rfl
theorem m11_run:(lv (cxT exN) 500).call 16 m11.args m11.h0 m11.n0 m11.chk=.fin .undef .nil 0:=by kernel_rfl
theorem m5_run:(lv (cxT exN) 500).call 15 m5.args m5.h0 m5.n0 m5.chk=.fin .undef .nil 0:=by kernel_rfl
theorem m13_run:(lv (cxT exN) 500).call 15 m13.args m13.h0 m13.n0 m13.chk=.fin .undef .nil 0:=by kernel_rfl
theorem m9_run:(lv (cxT exN) 500).call 16 m9.args m9.h0 m9.n0 m9.chk=.fin .undef .nil 0:=by kernel_rfl
theorem m4_run:(lv (cxT exN) 500).call 14 m4.args m4.h0 m4.n0 m4.chk=.fin .undef .nil 0:=by kernel_rfl
end
end
end Go.Proofs.Aud
