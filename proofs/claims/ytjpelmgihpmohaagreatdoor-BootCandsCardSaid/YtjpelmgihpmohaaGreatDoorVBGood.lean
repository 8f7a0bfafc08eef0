/- A part of the proof of BootCands: the program run by the evaluator. No condition. -/
import Derived.Test.YtjpelmgihpmohaaGreatDoorVBLowB
import Derived.Test.YtjpelmgihpmohaaGreatDoorVE18
set_option linter.all false
namespace Go.Proofs
noncomputable section
open Go Go.VE
def goodAt (i:Nat):Bool:=match Tryz.prog.funcs[i]? with | some fn=>zsn tbT fn | none=>false
def goodGAt (i:Nat):Bool:=match Tryz.prog.funcs[i]? with | some fn=>zi0 tbT fn | none=>false
set_option maxRecDepth 100000
theorem goods:codeL.all (fun p=>goodAt p.1)=true:=by kernel_rfl
theorem goodsG:[341,398,356].all goodGAt=true:=by kernel_rfl
end
end Go.Proofs
