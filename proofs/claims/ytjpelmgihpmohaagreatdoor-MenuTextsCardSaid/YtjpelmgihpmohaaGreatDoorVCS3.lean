/- A part of the proof of MenuTexts: the program run by the evaluator. No condition. -/
import Derived.Test.YtjpelmgihpmohaaGreatDoorVCMain
set_option linter.all false
namespace Go.Proofs.Aud
noncomputable section
noncomputable section
open Go Go.VE
set_option maxRecDepth 100000
theorem s54:allR (fun j=>runA [.ukn 3 166020696663385964799 3,.ukn 3 15 6]) 1 0=true:=by kernel_rfl
theorem s55:allR (fun j=>runA [.ukn 3 166020696663385964799 3,.ukn 3 15 7]) 1 0=true:=by kernel_rfl
theorem s56:allR (fun j=>runA [.ukn 3 166020696663385964799 3,.ukn 3 15 8]) 1 0=true:=by kernel_rfl
theorem s57:allR (fun j=>runA [.ukn 3 166020696663385964799 3,.ukn 3 15 9]) 1 0=true:=by kernel_rfl
theorem s58:allR (fun j=>runA [.ukn 3 166020696663385964799 3,.ukn 3 15 10]) 1 0=true:=by kernel_rfl
theorem s59:allR (fun j=>runA [.ukn 3 166020696663385964799 3,.ukn 3 15 11]) 1 0=true:=by kernel_rfl
theorem s60:allR (fun j=>runA [.ukn 3 166020696663385964799 3,.ukn 3 15 12]) 1 0=true:=by kernel_rfl
theorem s61:allR (fun j=>runA [.ukn 3 166020696663385964799 3,.ukn 3 15 13]) 1 0=true:=by kernel_rfl
theorem s62:allR (fun j=>runA [.ukn 3 166020696663385964799 3,.ukn 3 15 14]) 1 0=true:=by kernel_rfl
theorem s63:allR (fun j=>runA [.ukn 3 166020696663385964799 3,.ukn 3 15 15]) 1 0=true:=by kernel_rfl
theorem s64:allR (fun j=>runA [.ukn 3 166020696663385964799 4,.ukn 3 15 0]) 1 0=true:=by kernel_rfl
theorem s65:allR (fun j=>runA [.ukn 3 166020696663385964799 4,.ukn 3 15 1]) 1 0=true:=by kernel_rfl
theorem s66:allR (fun j=>runA [.ukn 3 166020696663385964799 4,.ukn 3 15 2]) 1 0=true:=by kernel_rfl
theorem s67:allR (fun j=>runA [.ukn 3 166020696663385964799 4,.ukn 3 15 3]) 1 0=true:=by kernel_rfl
theorem s68:allR (fun j=>runA [.ukn 3 166020696663385964799 4,.ukn 3 15 4]) 1 0=true:=by kernel_rfl
theorem s69:allR (fun j=>runA [.ukn 3 166020696663385964799 4,.ukn 3 15 5]) 1 0=true:=by kernel_rfl
theorem s70:allR (fun j=>runA [.ukn 3 166020696663385964799 4,.ukn 3 15 6]) 1 0=true:=by kernel_rfl
theorem s71:allR (fun j=>runA [.ukn 3 166020696663385964799 4,.ukn 3 15 7]) 1 0=true:=by kernel_rfl
end
end
end Go.Proofs.Aud
