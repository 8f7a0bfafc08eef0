/- A part of the proof of MenuTexts: the program run by the evaluator. No condition. -/
import Derived.Test.YtjpelmgihpmohaaGreatDoorVCMain
set_option linter.all false
namespace Go.Proofs.Aud
noncomputable section
noncomputable section
open Go Go.VE
set_option maxRecDepth 100000
theorem s90:allR (fun j=>runA [.ukn 3 166020696663385964799 5,.ukn 3 15 10]) 1 0=true:=by kernel_rfl
theorem s91:allR (fun j=>runA [.ukn 3 166020696663385964799 5,.ukn 3 15 11]) 1 0=true:=by kernel_rfl
theorem s92:allR (fun j=>runA [.ukn 3 166020696663385964799 5,.ukn 3 15 12]) 1 0=true:=by kernel_rfl
theorem s93:allR (fun j=>runA [.ukn 3 166020696663385964799 5,.ukn 3 15 13]) 1 0=true:=by kernel_rfl
theorem s94:allR (fun j=>runA [.ukn 3 166020696663385964799 5,.ukn 3 15 14]) 1 0=true:=by kernel_rfl
theorem s95:allR (fun j=>runA [.ukn 3 166020696663385964799 5,.ukn 3 15 15]) 1 0=true:=by kernel_rfl
theorem s96:allR (fun j=>runA [.ukn 3 166020696663385964799 6,.ukn 3 15 0]) 1 0=true:=by kernel_rfl
theorem s97:allR (fun j=>runA [.ukn 3 166020696663385964799 6,.ukn 3 15 1]) 1 0=true:=by kernel_rfl
theorem s98:allR (fun j=>runA [.ukn 3 166020696663385964799 6,.ukn 3 15 2]) 1 0=true:=by kernel_rfl
theorem s99:allR (fun j=>runA [.ukn 3 166020696663385964799 6,.ukn 3 15 3]) 1 0=true:=by kernel_rfl
theorem s100:allR (fun j=>runA [.ukn 3 166020696663385964799 6,.ukn 3 15 4]) 1 0=true:=by kernel_rfl
theorem s101:allR (fun j=>runA [.ukn 3 166020696663385964799 6,.ukn 3 15 5]) 1 0=true:=by kernel_rfl
theorem s102:allR (fun j=>runA [.ukn 3 166020696663385964799 6,.ukn 3 15 6]) 1 0=true:=by kernel_rfl
theorem s103:allR (fun j=>runA [.ukn 3 166020696663385964799 6,.ukn 3 15 7]) 1 0=true:=by kernel_rfl
theorem s104:allR (fun j=>runA [.ukn 3 166020696663385964799 6,.ukn 3 15 8]) 1 0=true:=by kernel_rfl
theorem s105:allR (fun j=>runA [.ukn 3 166020696663385964799 6,.ukn 3 15 9]) 1 0=true:=by kernel_rfl
theorem s106:allR (fun j=>runA [.ukn 3 166020696663385964799 6,.ukn 3 15 10]) 1 0=true:=by kernel_rfl
theorem s107:allR (fun j=>runA [.ukn 3 166020696663385964799 6,.ukn 3 15 11]) 1 0=true:=by kernel_rfl
end
end
end Go.Proofs.Aud
