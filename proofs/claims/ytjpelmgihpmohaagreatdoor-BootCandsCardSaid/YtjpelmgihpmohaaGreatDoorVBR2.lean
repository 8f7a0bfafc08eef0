/- A part of the proof of BootCands: the program run by the evaluator. No condition. -/
import Derived.Test.YtjpelmgihpmohaaGreatDoorVBM
set_option linter.all false
namespace Go.Proofs.Aud
noncomputable section
noncomputable section
open Go Go.VE
set_option maxRecDepth 100000
theorem m43_run:(lv (cxT exN) 500).call 7 m43.args m43.h0 m43.n0 m43.chk=.fin .undef .nil 0:=by kernel_rfl
theorem m35_run:(lv (cxT exN) 500).call 7 m35.args m35.h0 m35.n0 m35.chk=.fin .undef .nil 0:=by kernel_rfl
theorem m27_run:(lv (cxT exN) 500).call 7 m27.args m27.h0 m27.n0 m27.chk=.fin .undef .nil 0:=by kernel_rfl
theorem m20_run:(lv (cxT exN) 500).call 7 m20.args m20.h0 m20.n0 m20.chk=.fin .undef .nil 0:=by kernel_rfl
theorem m25_run:(lv (cxT exN) 500).call 7 m25.args m25.h0 m25.n0 m25.chk=.fin .undef .nil 0:=by kernel_rfl
theorem m38_run:(lv (cxT exN) 500).call 7 m38.args m38.h0 m38.n0 m38.chk=.fin .undef .nil 0:=by kernel_rfl
theorem m31_run:(lv (cxT exN) 500).call 7 m31.args m31.h0 m31.n0 m31.chk=.fin .undef .nil 0:=by kernel_rfl
theorem m44_run:(lv (cxT exN) 500).call 7 m44.args m44.h0 m44.n0 m44.chk=.fin .undef .nil 0:=by kernel_rfl
theorem m23_run:(lv (cxT exN) 500).call 7 m23.args m23.h0 m23.n0 m23.chk=.fin .undef .nil 0:=by kernel_rfl
theorem m36_run:(lv (cxT exN) 500).call 7 m36.args m36.h0 m36.n0 m36.chk=.fin .undef .nil 0:=by kernel_rfl
theorem m11_run:(lv (cxT exN) 500).call 7 m11.args m11.h0 m11.n0 m11.chk=.fin .undef .nil 0:=by kernel_rfl
theorem m21_run:(lv (cxT exN) 500).call 7 m21.args m21.h0 m21.n0 m21.chk=.fin .undef .nil 0:=by kernel_rfl
theorem m3_run:(lv (cxT exN) 500).call 7 m3.args m3.h0 m3.n0 m3.chk=.fin .undef .nil 0:=by kernel_rfl
end
end
end Go.Proofs.Aud
