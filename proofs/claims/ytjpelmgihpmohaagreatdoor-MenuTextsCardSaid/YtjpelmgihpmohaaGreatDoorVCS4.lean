/- A part of the proof of MenuTexts: the program run by the evaluator. No condition. -/
import Derived.Test.YtjpelmgihpmohaaGreatDoorVCMain
set_option linter.all false
namespace Go.Proofs.Aud
noncomputable section
noncomputable section
open Go Go.VE
set_option maxRecDepth 100000
theorem s72:allR (fun j=>runA [.ukn 3 166020696663385964799 4,.ukn 3 15 8]) 1 0=true:=by kernel_rfl
theorem s73:allR (fun j=>runA [.ukn 3 166020696663385964799 4,.ukn 3 15 9]) 1 0=true:=by kernel_rfl
theorem s74:allR (fun j=>runA [.ukn 3 166020696663385964799 4,.ukn 3 15 10]) 1 0=true:=by kernel_rfl
theorem s75:allR (fun j=>runA [.ukn 3 166020696663385964799 4,.ukn 3 15 11]) 1 0=true:=by kernel_rfl
theorem s76:allR (fun j=>runA [.ukn 3 166020696663385964799 4,.ukn 3 15 12]) 1 0=true:=by kernel_rfl
theorem s77:allR (fun j=>runA [.ukn 3 166020696663385964799 4,.ukn 3 15 13]) 1 0=true:=by kernel_rfl
theorem s78:allR (fun j=>runA [.ukn 3 166020696663385964799 4,.ukn 3 15 14]) 1 0=true:=by kernel_rfl
theorem s79:allR (fun j=>runA [.ukn 3 166020696663385964799 4,.ukn 3 15 15]) 1 0=true:=by kernel_rfl
theorem s80:allR (fun j=>runA [.ukn 3 166020696663385964799 5,.ukn 3 15 0]) 1 0=true:=by kernel_rfl
theorem s81:allR (fun j=>runA [.ukn 3 166020696663385964799 5,.ukn 3 15 1]) 1 0=true:=by kernel_rfl
theorem s82:allR (fun j=>runA [.ukn 3 166020696663385964799 5,.ukn 3 15 2]) 1 0=true:=by kernel_rfl
theorem s83:allR (fun j=>runA [.ukn 3 166020696663385964799 5,.ukn 3 15 3]) 1 0=true:=by kernel_rfl
theorem s84:allR (fun j=>runA [.ukn 3 166020696663385964799 5,.ukn 3 15 4]) 1 0=true:=by kernel_rfl
theorem s85:allR (fun j=>runA [.ukn 3 166020696663385964799 5,.ukn 3 15 5]) 1 0=true:=by kernel_rfl
theorem s86:allR (fun j=>runA [.ukn 3 166020696663385964799 5,.ukn 3 15 6]) 1 0=true:=by kernel_rfl
theorem s87:allR (fun j=>runA [.ukn 3 166020696663385964799 5,.ukn 3 15 7]) 1 0=true:=by kernel_rfl
theorem s88:allR (fun j=>runA [.ukn 3 166020696663385964799 5,.ukn 3 15 8]) 1 0=true:=by kernel_rfl
theorem s89:allR (fun j=>runA [.ukn 3 166020696663385964799 5,.ukn 3 15 9]) 1 0=true:=by kernel_rfl
end
end
end Go.Proofs.Aud
