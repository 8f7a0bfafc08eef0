/- A part of the proof of BootCands: the program run by the evaluator. No condition. -/
import Derived.Test.YtjpelmgihpmohaaGreatDoorVBMain
set_option linter.all false
namespace Go.Proofs.Aud
noncomputable section
noncomputable section
open Go Go.VE
set_option maxRecDepth 100000
theorem s8:allR (fun j=>runA [.ukn 3 7 1,.ukn 3 7 0]) 1 0=true:=by kernel_rfl
theorem s9:allR (fun j=>runA [.ukn 3 7 1,.ukn 3 7 1]) 1 0=true:=by kernel_rfl
theorem s10:allR (fun j=>runA [.ukn 3 7 1,.ukn 3 7 2]) 1 0=true:=by kernel_rfl
theorem s11:allR (fun j=>runA [.ukn 3 7 1,.ukn 3 7 3]) 1 0=true:=by kernel_rfl
theorem s12:allR (fun j=>runA [.ukn 3 7 1,.ukn 3 7 4]) 1 0=true:=by kernel_rfl
theorem s13:allR (fun j=>runA [.ukn 3 7 1,.ukn 3 7 5]) 1 0=true:=by kernel_rfl
theorem s14:allR (fun j=>runA [.ukn 3 7 1,.ukn 3 7 6]) 1 0=true:=by kernel_rfl
theorem s15:allR (fun j=>runA [.ukn 3 7 1,.ukn 3 7 7]) 1 0=true:=by kernel_rfl
end
end
end Go.Proofs.Aud
