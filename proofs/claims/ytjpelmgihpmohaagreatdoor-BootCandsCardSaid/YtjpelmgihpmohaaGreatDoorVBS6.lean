/- A part of the proof of BootCands: the program run by the evaluator. No condition. -/
import Derived.Test.YtjpelmgihpmohaaGreatDoorVBMain
set_option linter.all false
namespace Go.Proofs.Aud
noncomputable section
noncomputable section
open Go Go.VE
set_option maxRecDepth 100000
theorem s48:allR (fun j=>runA [.ukn 3 7 6,.ukn 3 7 0]) 1 0=true:=by kernel_rfl
theorem s49:allR (fun j=>runA [.ukn 3 7 6,.ukn 3 7 1]) 1 0=true:=by kernel_rfl
theorem s50:allR (fun j=>runA [.ukn 3 7 6,.ukn 3 7 2]) 1 0=true:=by kernel_rfl
theorem s51:allR (fun j=>runA [.ukn 3 7 6,.ukn 3 7 3]) 1 0=true:=by kernel_rfl
theorem s52:allR (fun j=>runA [.ukn 3 7 6,.ukn 3 7 4]) 1 0=true:=by kernel_rfl
theorem s53:allR (fun j=>runA [.ukn 3 7 6,.ukn 3 7 5]) 1 0=true:=by kernel_rfl
theorem s54:allR (fun j=>runA [.ukn 3 7 6,.ukn 3 7 6]) 1 0=true:=by kernel_rfl
theorem s55:allR (fun j=>runA [.ukn 3 7 6,.ukn 3 7 7]) 1 0=true:=by kernel_rfl
end
end
end Go.Proofs.Aud
