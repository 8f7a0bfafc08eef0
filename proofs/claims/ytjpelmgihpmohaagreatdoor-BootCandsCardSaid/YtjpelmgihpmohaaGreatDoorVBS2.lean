/- A part of the proof of BootCands: the program run by the evaluator. No condition. -/
import Derived.Test.YtjpelmgihpmohaaGreatDoorVBMain
set_option linter.all false
namespace Go.Proofs.Aud
noncomputable section
noncomputable section
open Go Go.VE
set_option maxRecDepth 100000
theorem s16:allR (fun j=>runA [.ukn 3 7 2,.ukn 3 7 0]) 1 0=true:=by kernel_rfl
theorem s17:allR (fun j=>runA [.ukn 3 7 2,.ukn 3 7 1]) 1 0=true:=by kernel_rfl
theorem s18:allR (fun j=>runA [.ukn 3 7 2,.ukn 3 7 2]) 1 0=true:=by kernel_rfl
theorem s19:allR (fun j=>runA [.ukn 3 7 2,.ukn 3 7 3]) 1 0=true:=by kernel_rfl
theorem s20:allR (fun j=>runA [.ukn 3 7 2,.ukn 3 7 4]) 1 0=true:=by kernel_rfl
theorem s21:allR (fun j=>runA [.ukn 3 7 2,.ukn 3 7 5]) 1 0=true:=by kernel_rfl
theorem s22:allR (fun j=>runA [.ukn 3 7 2,.ukn 3 7 6]) 1 0=true:=by kernel_rfl
theorem s23:allR (fun j=>runA [.ukn 3 7 2,.ukn 3 7 7]) 1 0=true:=by kernel_rfl
end
end
end Go.Proofs.Aud
