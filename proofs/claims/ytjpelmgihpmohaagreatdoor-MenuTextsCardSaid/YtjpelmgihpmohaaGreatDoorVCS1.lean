/- A part of the proof of MenuTexts: the program run by the evaluator. No condition. -/
import Derived.Test.YtjpelmgihpmohaaGreatDoorVCMain
set_option linter.all false
namespace Go.Proofs.Aud
noncomputable section
noncomputable section
open Go Go.VE
set_option maxRecDepth 100000
theorem s18:allR (fun j=>runA [.ukn 3 166020696663385964799 1,.ukn 3 15 2]) 1 0=true:=by kernel_rfl
theorem s19:allR (fun j=>runA [.ukn 3 166020696663385964799 1,.ukn 3 15 3]) 1 0=true:=by kernel_rfl
theorem s20:allR (fun j=>runA [.ukn 3 166020696663385964799 1,.ukn 3 15 4]) 1 0=true:=by kernel_rfl
theorem s21:allR (fun j=>runA [.ukn 3 166020696663385964799 1,.ukn 3 15 5]) 1 0=true:=by kernel_rfl
theorem s22:allR (fun j=>runA [.ukn 3 166020696663385964799 1,.ukn 3 15 6]) 1 0=true:=by kernel_rfl
theorem s23:allR (fun j=>runA [.ukn 3 166020696663385964799 1,.ukn 3 15 7]) 1 0=true:=by kernel_rfl
theorem s24:allR (fun j=>runA [.ukn 3 166020696663385964799 1,.ukn 3 15 8]) 1 0=true:=by kernel_rfl
theorem s25:allR (fun j=>runA [.ukn 3 166020696663385964799 1,.ukn 3 15 9]) 1 0=true:=by kernel_rfl
theorem s26:allR (fun j=>runA [.ukn 3 166020696663385964799 1,.ukn 3 15 10]) 1 0=true:=by kernel_rfl
theorem s27:allR (fun j=>runA [.ukn 3 166020696663385964799 1,.ukn 3 15 11]) 1 0=true:=by kernel_rfl
theorem s28:allR (fun j=>runA [.ukn 3 166020696663385964799 1,.ukn 3 15 12]) 1 0=true:=by kernel_rfl
theorem s29:allR (fun j=>runA [.ukn 3 166020696663385964799 1,.ukn 3 15 13]) 1 0=true:=by kernel_rfl
theorem s30:allR (fun j=>runA [.ukn 3 166020696663385964799 1,.ukn 3 15 14]) 1 0=true:=by kernel_rfl
theorem s31:allR (fun j=>runA [.ukn 3 166020696663385964799 1,.ukn 3 15 15]) 1 0=true:=by kernel_rfl
theorem s32:allR (fun j=>runA [.ukn 3 166020696663385964799 2,.ukn 3 15 0]) 1 0=true:=by kernel_rfl
theorem s33:allR (fun j=>runA [.ukn 3 166020696663385964799 2,.ukn 3 15 1]) 1 0=true:=by kernel_rfl
theorem s34:allR (fun j=>runA [.ukn 3 166020696663385964799 2,.ukn 3 15 2]) 1 0=true:=by kernel_rfl
theorem s35:allR (fun j=>runA [.ukn 3 166020696663385964799 2,.ukn 3 15 3]) 1 0=true:=by kernel_rfl
end
end
end Go.Proofs.Aud
