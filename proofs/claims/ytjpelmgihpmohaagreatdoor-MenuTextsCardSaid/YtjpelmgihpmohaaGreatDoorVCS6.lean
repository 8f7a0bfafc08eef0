/- A part of the proof of MenuTexts: the program run by the evaluator. No condition. -/
import Derived.Test.YtjpelmgihpmohaaGreatDoorVCMain
set_option linter.all false
namespace Go.Proofs.Aud
noncomputable section
noncomputable section
open Go Go.VE
set_option maxRecDepth 100000
theorem s108:allR (fun j=>runA [.ukn 3 166020696663385964799 6,.ukn 3 15 12]) 1 0=true:=by kernel_rfl
theorem s109:allR (fun j=>runA [.ukn 3 166020696663385964799 6,.ukn 3 15 13]) 1 0=true:=by kernel_rfl
theorem s110:allR (fun j=>runA [.ukn 3 166020696663385964799 6,.ukn 3 15 14]) 1 0=true:=by kernel_rfl
theorem s111:allR (fun j=>runA [.ukn 3 166020696663385964799 6,.ukn 3 15 15]) 1 0=true:=by kernel_rfl
theorem s112:allR (fun j=>runA [.ukn 3 166020696663385964799 7,.ukn 3 15 0]) 1 0=true:=by kernel_rfl
theorem s113:allR (fun j=>runA [.ukn 3 166020696663385964799 7,.ukn 3 15 1]) 1 0=true:=by kernel_rfl
theorem s114:allR (fun j=>runA [.ukn 3 166020696663385964799 7,.ukn 3 15 2]) 1 0=true:=by kernel_rfl
theorem s115:allR (fun j=>runA [.ukn 3 166020696663385964799 7,.ukn 3 15 3]) 1 0=true:=by kernel_rfl
theorem s116:allR (fun j=>runA [.ukn 3 166020696663385964799 7,.ukn 3 15 4]) 1 0=true:=by kernel_rfl
theorem s117:allR (fun j=>runA [.ukn 3 166020696663385964799 7,.ukn 3 15 5]) 1 0=true:=by kernel_rfl
theorem s118:allR (fun j=>runA [.ukn 3 166020696663385964799 7,.ukn 3 15 6]) 1 0=true:=by kernel_rfl
theorem s119:allR (fun j=>runA [.ukn 3 166020696663385964799 7,.ukn 3 15 7]) 1 0=true:=by kernel_rfl
theorem s120:allR (fun j=>runA [.ukn 3 166020696663385964799 7,.ukn 3 15 8]) 1 0=true:=by kernel_rfl
theorem s121:allR (fun j=>runA [.ukn 3 166020696663385964799 7,.ukn 3 15 9]) 1 0=true:=by kernel_rfl
theorem s122:allR (fun j=>runA [.ukn 3 166020696663385964799 7,.ukn 3 15 10]) 1 0=true:=by kernel_rfl
theorem s123:allR (fun j=>runA [.ukn 3 166020696663385964799 7,.ukn 3 15 11]) 1 0=true:=by kernel_rfl
theorem s124:allR (fun j=>runA [.ukn 3 166020696663385964799 7,.ukn 3 15 12]) 1 0=true:=by kernel_rfl
theorem s125:allR (fun j=>runA [.ukn 3 166020696663385964799 7,.ukn 3 15 13]) 1 0=true:=by kernel_rfl
end
end
end Go.Proofs.Aud
