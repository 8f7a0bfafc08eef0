/- A part of the proof of MenuTexts: the program run by the evaluator. No condition. -/
import Derived.Test.YtjpelmgihpmohaaGreatDoorVCMain
set_option linter.all false
namespace Go.Proofs.Aud
noncomputable section
noncomputable section
open Go Go.VE
set_option maxRecDepth 100000
theorem s0:allR (fun j=>runA [.ukn 3 166020696663385964799 0,.ukn 3 15 0]) 1 0=true:=by kernel_rfl
theorem s1:allR (fun j=>runA [.ukn 3 166020696663385964799 0,.ukn 3 15 1]) 1 0=true:=by kernel_rfl
theorem s2:allR (fun j=>runA [.ukn 3 166020696663385964799 0,.ukn 3 15 2]) 1 0=true:=by kernel_rfl
theorem s3:allR (fun j=>runA [.ukn 3 166020696663385964799 0,.ukn 3 15 3]) 1 0=true:=by kernel_rfl
theorem s4:allR (fun j=>runA [.ukn 3 166020696663385964799 0,.ukn 3 15 4]) 1 0=true:=by kernel_rfl
theorem s5:allR (fun j=>runA [.ukn 3 166020696663385964799 0,.ukn 3 15 5]) 1 0=true:=by kernel_rfl
theorem s6:allR (fun j=>runA [.ukn 3 166020696663385964799 0,.ukn 3 15 6]) 1 0=true:=by kernel_rfl
theorem s7:allR (fun j=>runA [.ukn 3 166020696663385964799 0,.ukn 3 15 7]) 1 0=true:=by kernel_rfl
theorem s8:allR (fun j=>runA [.ukn 3 166020696663385964799 0,.ukn 3 15 8]) 1 0=true:=by kernel_rfl
theorem s9:allR (fun j=>runA [.ukn 3 166020696663385964799 0,.ukn 3 15 9]) 1 0=true:=by kernel_rfl
theorem s10:allR (fun j=>runA [.ukn 3 166020696663385964799 0,.ukn 3 15 10]) 1 0=true:=by kernel_rfl
theorem s11:allR (fun j=>runA [.ukn 3 166020696663385964799 0,.ukn 3 15 11]) 1 0=true:=by kernel_rfl
theorem s12:allR (fun j=>runA [.ukn 3 166020696663385964799 0,.ukn 3 15 12]) 1 0=true:=by kernel_rfl
theorem s13:allR (fun j=>runA [.ukn 3 166020696663385964799 0,.ukn 3 15 13]) 1 0=true:=by kernel_rfl
theorem s14:allR (fun j=>runA [.ukn 3 166020696663385964799 0,.ukn 3 15 14]) 1 0=true:=by kernel_rfl
theorem s15:allR (fun j=>runA [.ukn 3 166020696663385964799 0,.ukn 3 15 15]) 1 0=true:=by kernel_rfl
theorem s16:allR (fun j=>runA [.ukn 3 166020696663385964799 1,.ukn 3 15 0]) 1 0=true:=by kernel_rfl
theorem s17:allR (fun j=>runA [.ukn 3 166020696663385964799 1,.ukn 3 15 1]) 1 0=true:=by kernel_rfl
end
end
end Go.Proofs.Aud
