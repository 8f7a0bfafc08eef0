/- A part of the proof of BootCands: the program run by the evaluator. No condition. -/
import Derived.Test.YtjpelmgihpmohaaGreatDoorVBMain
set_option linter.all false
namespace Go.Proofs.Aud
noncomputable section
noncomputable section
open Go Go.VE
set_option maxRecDepth 100000
theorem s56:allR (fun j=>runA [.ukn 3 7 7,.ukn 3 7 0]) 1 0=true:=by kernel_rfl
theorem s57:allR (fun j=>runA [.ukn 3 7 7,.ukn 3 7 1]) 1 0=true:=by kernel_rfl
theorem s58:allR (fun j=>runA [.ukn 3 7 7,.ukn 3 7 2]) 1 0=true:=by kernel_rfl
theorem s59:allR (fun j=>runA [.ukn 3 7 7,.ukn 3 7 3]) 1 0=true:=by kernel_rfl
theorem s60:allR (fun j=>runA [.ukn 3 7 7,.ukn 3 7 4]) 1 0=true:=by kernel_rfl
theorem s61:allR (fun j=>runA [.ukn 3 7 7,.ukn 3 7 5]) 1 0=true:=by kernel_rfl
theorem s62:allR (fun j=>runA [.ukn 3 7 7,.ukn 3 7 6]) 1 0=true:=by kernel_rfl
theorem s63:allR (fun j=>runA [.ukn 3 7 7,.ukn 3 7 7]) 1 0=true:=by kernel_rfl
end
end
end Go.Proofs.Aud
