/- A part of the proof of BootCands: the program run by the evaluator. No condition. -/
import Derived.Test.YtjpelmgihpmohaaGreatDoorCards
import Derived.JoinedOf
import Derived.SevenTiedAt
set_option linter.all false
namespace Go.Proofs.Aud
noncomputable section
noncomputable section
open Go Go.Proofs.YtjpelmgihpmohaaGreatDoor
set_option maxRecDepth 100000
theorem looks_is:true=Tryz.pinned.checked.prog.looks []:=by kernel_rfl
theorem no_go:Tryz.prog.funcs.toList.all (fun fn=>!fn.goes)=true:=by kernel_rfl
theorem goes_false {P:Program} (h:P.funcs.toList.all (fun fn=>!fn.goes)=true) (f:FuncId):P.goes f=false:=by
 have h1:∀ g:Nat,(P.funcs[g]?).any Func.goes=false:=fun g=>by
  cases hg:P.funcs[g]? with
  | none=>rfl
  | some fn=>
   have:=List.all_eq_true.1 h fn (Array.mem_toList_iff.2 (Array.mem_of_getElem? hg))
   simpa using this
 have h2:P.funcs.any Func.goes=false:=by
  rw [← Array.any_toList,List.any_eq_false]
  intro fn hfn
  have:=List.all_eq_true.1 h fn hfn
  simpa using this
 unfold Program.goes
 rw [h2,Bool.and_false,Bool.or_false,List.any_eq_false]
 intro g _
 rw [h1 g]; simp
theorem any_goes {P:Program} (h:P.funcs.toList.all (fun fn=>!fn.goes)=true) (o:Option FuncId):(o.any P.goes || false)=false:=by
 cases o with
 | none=>rfl
 | some f=>rw [Option.any_some,goes_false h f]; rfl
theorem goes_is : false = Rows.bootCandsRow.goesBy Tryz.pinned.checked.prog := (any_goes no_go (Tryz.prog.funcNamed "credenza/credenzalaw21.BootCands")).symm
theorem wf_is:Rows.bootCandsRow.wfByText (OpenSpec.ofChange Rows.bootCandsSpec)=true:=by kernel_rfl
end
end
end Go.Proofs.Aud
