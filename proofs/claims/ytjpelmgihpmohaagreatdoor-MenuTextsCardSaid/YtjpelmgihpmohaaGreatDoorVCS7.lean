/- A part of the proof of MenuTexts: the program run by the evaluator. No condition. -/
import Derived.Test.YtjpelmgihpmohaaGreatDoorVCMain
set_option linter.all false
namespace Go.Proofs.Aud
noncomputable section
noncomputable section
open Go Go.VE
set_option maxRecDepth 100000
theorem s126:allR (fun j=>runA [.ukn 3 166020696663385964799 7,.ukn 3 15 14]) 1 0=true:=by kernel_rfl
theorem s127:allR (fun j=>runA [.ukn 3 166020696663385964799 7,.ukn 3 15 15]) 1 0=true:=by kernel_rfl
theorem s128:allR (fun j=>runA [.ukn 3 166020696663385964799 8,.ukn 3 15 0]) 1 0=true:=by kernel_rfl
theorem s129:allR (fun j=>runA [.ukn 3 166020696663385964799 8,.ukn 3 15 1]) 1 0=true:=by kernel_rfl
theorem s130:allR (fun j=>runA [.ukn 3 166020696663385964799 8,.ukn 3 15 2]) 1 0=true:=by kernel_rfl
theorem s131:allR (fun j=>runA [.ukn 3 166020696663385964799 8,.ukn 3 15 3]) 1 0=true:=by kernel_rfl
theorem s132:allR (fun j=>runA [.ukn 3 166020696663385964799 8,.ukn 3 15 4]) 1 0=true:=by kernel_rfl
theorem s133:allR (fun j=>runA [.ukn 3 166020696663385964799 8,.ukn 3 15 5]) 1 0=true:=by kernel_rfl
theorem s134:allR (fun j=>runA [.ukn 3 166020696663385964799 8,.ukn 3 15 6]) 1 0=true:=by kernel_rfl
theorem s135:allR (fun j=>runA [.ukn 3 166020696663385964799 8,.ukn 3 15 7]) 1 0=true:=by kernel_rfl
theorem s136:allR (fun j=>runA [.ukn 3 166020696663385964799 8,.ukn 3 15 8]) 1 0=true:=by kernel_rfl
theorem s137:allR (fun j=>runA [.ukn 3 166020696663385964799 8,.ukn 3 15 9]) 1 0=true:=by kernel_rfl
theorem s138:allR (fun j=>runA [.ukn 3 166020696663385964799 8,.ukn 3 15 10]) 1 0=true:=by kernel_rfl
theorem s139:allR (fun j=>runA [.ukn 3 166020696663385964799 8,.ukn 3 15 11]) 1 0=true:=by kernel_rfl
theorem s140:allR (fun j=>runA [.ukn 3 166020696663385964799 8,.ukn 3 15 12]) 1 0=true:=by kernel_rfl
theorem s141:allR (fun j=>runA [.ukn 3 166020696663385964799 8,.ukn 3 15 13]) 1 0=true:=by kernel_rfl
theorem s142:allR (fun j=>runA [.ukn 3 166020696663385964799 8,.ukn 3 15 14]) 1 0=true:=by kernel_rfl
theorem s143:allR (fun j=>runA [.ukn 3 166020696663385964799 8,.ukn 3 15 15]) 1 0=true:=by kernel_rfl
end
end
end Go.Proofs.Aud
