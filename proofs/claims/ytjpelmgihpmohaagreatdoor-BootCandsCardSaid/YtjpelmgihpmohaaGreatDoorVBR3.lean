/- A part of the proof of BootCands: the program run by the evaluator. No condition. -/
import Derived.Test.YtjpelmgihpmohaaGreatDoorVBM
set_option linter.all false
namespace Go.Proofs.Aud
noncomputable section
noncomputable section
open Go Go.VE
set_option maxRecDepth 100000
theorem m49_run:(lv (cxT exN) 500).call 7 m49.args m49.h0 m49.n0 m49.chk=.fin .undef .nil 0:=by kernel_rfl
theorem m42_run:(lv (cxT exN) 500).call 7 m42.args m42.h0 m42.n0 m42.chk=.fin .undef .nil 0:=by kernel_rfl
theorem m41_run:(lv (cxT exN) 500).call 7 m41.args m41.h0 m41.n0 m41.chk=.fin .undef .nil 0:=by kernel_rfl
theorem m40_run:(lv (cxT exN) 500).call 7 m40.args m40.h0 m40.n0 m40.chk=.fin .undef .nil 0:=by kernel_rfl
theorem m46_run:(lv (cxT exN) 500).call 7 m46.args m46.h0 m46.n0 m46.chk=.fin .undef .nil 0:=by kernel_rfl
theorem m19_run:(lv (cxT exN) 500).call 7 m19.args m19.h0 m19.n0 m19.chk=.fin .undef .nil 0:=by kernel_rfl
theorem m18_run:(lv (cxT exN) 500).call 7 m18.args m18.h0 m18.n0 m18.chk=.fin .undef .nil 0:=by kernel_rfl
theorem m37_run:(lv (cxT exN) 500).call 7 m37.args m37.h0 m37.n0 m37.chk=.fin .undef .nil 0:=by kernel_rfl
theorem m12_run:(lv (cxT exN) 500).call 7 m12.args m12.h0 m12.n0 m12.chk=.fin .undef .nil 0:=by kernel_rfl
theorem m5_run:(lv (cxT exN) 500).call 7 m5.args m5.h0 m5.n0 m5.chk=.fin .undef .nil 0:=by kernel_rfl
theorem m4_run:(lv (cxT exN) 500).call 7 m4.args m4.h0 m4.n0 m4.chk=.fin .undef .nil 0:=by kernel_rfl
theorem m10_run:(lv (cxT exN) 500).call 7 m10.args m10.h0 m10.n0 m10.chk=.fin .undef .nil 0:=by kernel_rfl
theorem m1_run:(lv (cxT exN) 500).call 6 m1.args m1.h0 m1.n0 m1.chk=.fin .undef .nil 0:=by kernel_rfl
end
end
end Go.Proofs.Aud
