/- A part of the proof of MenuTexts: the program run by the evaluator. No condition. -/
import Derived.Test.YtjpelmgihpmohaaGreatDoorVCMain
set_option linter.all false
namespace Go.Proofs.Aud
noncomputable section
noncomputable section
open Go Go.VE
set_option maxRecDepth 100000
theorem s36:allR (fun j=>runA [.ukn 3 166020696663385964799 2,.ukn 3 15 4]) 1 0=true:=by kernel_rfl
theorem s37:allR (fun j=>runA [.ukn 3 166020696663385964799 2,.ukn 3 15 5]) 1 0=true:=by kernel_rfl
theorem s38:allR (fun j=>runA [.ukn 3 166020696663385964799 2,.ukn 3 15 6]) 1 0=true:=by kernel_rfl
theorem s39:allR (fun j=>runA [.ukn 3 166020696663385964799 2,.ukn 3 15 7]) 1 0=true:=by kernel_rfl
theorem s40:allR (fun j=>runA [.ukn 3 166020696663385964799 2,.ukn 3 15 8]) 1 0=true:=by kernel_rfl
theorem s41:allR (fun j=>runA [.ukn 3 166020696663385964799 2,.ukn 3 15 9]) 1 0=true:=by kernel_rfl
theorem s42:allR (fun j=>runA [.ukn 3 166020696663385964799 2,.ukn 3 15 10]) 1 0=true:=by kernel_rfl
theorem s43:allR (fun j=>runA [.ukn 3 166020696663385964799 2,.ukn 3 15 11]) 1 0=true:=by kernel_rfl
theorem s44:allR (fun j=>runA [.ukn 3 166020696663385964799 2,.ukn 3 15 12]) 1 0=true:=by kernel_rfl
theorem s45:allR (fun j=>runA [.ukn 3 166020696663385964799 2,.ukn 3 15 13]) 1 0=true:=by kernel_rfl
theorem s46:allR (fun j=>runA [.ukn 3 166020696663385964799 2,.ukn 3 15 14]) 1 0=true:=by kernel_rfl
theorem s47:allR (fun j=>runA [.ukn 3 166020696663385964799 2,.ukn 3 15 15]) 1 0=true:=by kernel_rfl
theorem s48:allR (fun j=>runA [.ukn 3 166020696663385964799 3,.ukn 3 15 0]) 1 0=true:=by kernel_rfl
theorem s49:allR (fun j=>runA [.ukn 3 166020696663385964799 3,.ukn 3 15 1]) 1 0=true:=by kernel_rfl
theorem s50:allR (fun j=>runA [.ukn 3 166020696663385964799 3,.ukn 3 15 2]) 1 0=true:=by kernel_rfl
theorem s51:allR (fun j=>runA [.ukn 3 166020696663385964799 3,.ukn 3 15 3]) 1 0=true:=by kernel_rfl
theorem s52:allR (fun j=>runA [.ukn 3 166020696663385964799 3,.ukn 3 15 4]) 1 0=true:=by kernel_rfl
theorem s53:allR (fun j=>runA [.ukn 3 166020696663385964799 3,.ukn 3 15 5]) 1 0=true:=by kernel_rfl
end
end
end Go.Proofs.Aud
