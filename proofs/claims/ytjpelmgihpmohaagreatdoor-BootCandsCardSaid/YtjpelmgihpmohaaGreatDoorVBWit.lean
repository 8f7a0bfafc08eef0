/- A part of the proof of BootCands: the program run by the evaluator. No condition. -/
import Derived.Test.YtjpelmgihpmohaaGreatDoorCards
import Derived.WalkKit
import Derived.ProofKit
import Derived.OpenShut
import Derived.ChangeOld
import Derived.SizedLaws
import Derived.LaidMore
import Derived.LaidHandle
import Derived.Lay
import Derived.SevenTiedAt
set_option linter.all false
namespace Go.Proofs.Aud
noncomputable section
noncomputable section
open Go Go.Proofs.YtjpelmgihpmohaaGreatDoor
set_option maxRecDepth 100000
def withHandle (w:World):World:={ w with heap:=w.heap.modify 0 fun
   | .cells _ t frozen=>.cells #[.iface 292 (.agg #[.pointer (some ⟨9,28,none⟩)])] t frozen
   | o=>o }
def wit0 (os:Os):World:=withHandle (World.holding Tryz.prog os ⟨#[],#[],[]⟩)
def dat:List (String × DataW Unit):=Rows.bootCandsRow.laid.filter fun x=>x.2.handleName?.isNone
def wit (os:Os):World:=(wit0 os).layVars Tryz.prog dat
theorem wit_os (os:Os):(wit os).os=os:=World.layVars_os _ _ _
theorem wit_fits (os:Os):(wit0 os).layFits Tryz.prog dat []=true:=by kernel_rfl
theorem wit_ifaces (os:Os):(wit0 os).layIfaces Tryz.prog dat (wit os)=true:=by kernel_rfl
theorem laid_of {P:Program} {w0:World} {laid:List (String × DataW Unit)} (args:Array Value) (hf:w0.layFits P laid []=true) (hi:w0.layIfaces P laid (w0.layVars P laid)=true):
  laidMet P laid ((w0.layVars P laid).forCall (fun _ _=>0) ⟨#[],args,[]⟩).memory:=by
 have e1:(laid.filter fun x=>(laid.map (·.1)).contains x.1)=laid:=List.filter_eq_self.2 fun x hx=>List.contains_iff_mem.2 (List.mem_map.2 ⟨x,hx,rfl⟩)
 have e2:(laid.filter fun x=>!(laid.map (·.1)).contains x.1)=[]:=List.filter_eq_nil_iff.2 fun x hx=>by rw [List.contains_iff_mem.2 (List.mem_map.2 ⟨x,hx,rfl⟩)]; simp
 have h:laidMet P laid (w0.layVars P laid):=laidMet_layVars (w0:=w0) (laid.map (·.1)) [] (by rw [e1]) (by rw [e1]; exact hf) (by rw [e1]; exact hi) (by rw [e2]; exact LaidIn.none)
 exact h.of_heap (by simp [World.memory,World.forCall,Input.heap])
theorem wit_handle (os:Os) (args:Array Value):(Rows.bootCandsRow.laid.filter fun x=>x.2.handleName?.isSome).all (handleAtB Tryz.prog ((wit os).forCall (fun _ _=>0) ⟨#[],args,[]⟩).memory)=true:=by kernel_rfl
theorem wit_met (os:Os) (args:Array Value):laidMetH Tryz.prog Rows.bootCandsRow.laid (((wit os)).forCall (fun _ _=>0) ⟨#[],args,[]⟩).memory:=
 laidMetH_of_parts (laid_of args (wit_fits os) (wit_ifaces os)) (wit_handle os args)
theorem wit_shaped (os:Os) (args:Array Value):((wit os).forCall (fun _ _=>0) ⟨#[],args,[]⟩).Shaped Tryz.prog:=World.shaped_of_ZipB (by kernel_rfl) (by kernel_rfl)
end
end
end Go.Proofs.Aud
