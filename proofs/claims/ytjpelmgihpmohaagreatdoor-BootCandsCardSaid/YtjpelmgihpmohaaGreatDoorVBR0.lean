/- A part of the proof of BootCands: the program run by the evaluator. No condition. -/
import Derived.Test.YtjpelmgihpmohaaGreatDoorVBM
set_option linter.all false
namespace Go.Proofs.Aud
noncomputable section
noncomputable section
open Go Go.VE
set_option maxRecDepth 100000
theorem m51_run:(lv (cxT exN) 500).call 7 m51.args m51.h0 m51.n0 m51.chk=.fin .undef .nil 0:=by kernel_rfl
theorem m48_run:(lv (cxT exN) 500).call 7 m48.args m48.h0 m48.n0 m48.chk=.fin .undef .nil 0:=by kernel_rfl
theorem m47_run:(lv (cxT exN) 500).call 7 m47.args m47.h0 m47.n0 m47.chk=.fin .undef .nil 0:=by kernel_rfl
theorem m33_run:(lv (cxT exN) 500).call 7 m33.args m33.h0 m33.n0 m33.chk=.fin .undef .nil 0:=by kernel_rfl
theorem m39_run:(lv (cxT exN) 500).call 7 m39.args m39.h0 m39.n0 m39.chk=.fin .undef .nil 0:=by kernel_rfl
theorem m14_run:(lv (cxT exN) 500).call 7 m14.args m14.h0 m14.n0 m14.chk=.fin .undef .nil 0:=by kernel_rfl
theorem m13_run:(lv (cxT exN) 500).call 7 m13.args m13.h0 m13.n0 m13.chk=.fin .undef .nil 0:=by kernel_rfl
theorem m30_run:(lv (cxT exN) 500).call 7 m30.args m30.h0 m30.n0 m30.chk=.fin .undef .nil 0:=by kernel_rfl
theorem m17_run:(lv (cxT exN) 500).call 7 m17.args m17.h0 m17.n0 m17.chk=.fin .undef .nil 0:=by kernel_rfl
theorem m29_run:(lv (cxT exN) 500).call 7 m29.args m29.h0 m29.n0 m29.chk=.fin .undef .nil 0:=by kernel_rfl
theorem m16_run:(lv (cxT exN) 500).call 7 m16.args m16.h0 m16.n0 m16.chk=.fin .undef .nil 0:=by kernel_rfl
theorem m15_run:(lv (cxT exN) 500).call 7 m15.args m15.h0 m15.n0 m15.chk=.fin .undef .nil 0:=by kernel_rfl
theorem m6_run:(lv (cxT exN) 500).call 7 m6.args m6.h0 m6.n0 m6.chk=.fin .undef .nil 0:=by kernel_rfl
end
end
end Go.Proofs.Aud
