/- A part of the proof of BootCands: the program run by the evaluator. No condition. -/
import Derived.Test.YtjpelmgihpmohaaGreatDoorVBMain
set_option linter.all false
namespace Go.Proofs.Aud
noncomputable section
noncomputable section
open Go Go.VE
set_option maxRecDepth 100000
theorem s32:allR (fun j=>runA [.ukn 3 7 4,.ukn 3 7 0]) 1 0=true:=by kernel_rfl
theorem s33:allR (fun j=>runA [.ukn 3 7 4,.ukn 3 7 1]) 1 0=true:=by kernel_rfl
theorem s34:allR (fun j=>runA [.ukn 3 7 4,.ukn 3 7 2]) 1 0=true:=by kernel_rfl
theorem s35:allR (fun j=>runA [.ukn 3 7 4,.ukn 3 7 3]) 1 0=true:=by kernel_rfl
theorem s36:allR (fun j=>runA [.ukn 3 7 4,.ukn 3 7 4]) 1 0=true:=by kernel_rfl
theorem s37:allR (fun j=>runA [.ukn 3 7 4,.ukn 3 7 5]) 1 0=true:=by kernel_rfl
theorem s38:allR (fun j=>runA [.ukn 3 7 4,.ukn 3 7 6]) 1 0=true:=by kernel_rfl
theorem s39:allR (fun j=>runA [.ukn 3 7 4,.ukn 3 7 7]) 1 0=true:=by kernel_rfl
end
end
end Go.Proofs.Aud
