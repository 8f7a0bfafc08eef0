/- A part of the proof of BootCands: the program run by the evaluator. No condition. -/
import Derived.Test.YtjpelmgihpmohaaGreatDoorVBM
set_option linter.all false
namespace Go.Proofs.Aud
noncomputable section
noncomputable section
open Go Go.VE
set_option maxRecDepth 100000
def exM:Nat→Option I:=exT
def gl:Part:=[(0,a0),(2,a1),(7,a2),(8,a3)]
def h0:H:=zl8 gl .nil
def chkT:K:=fun v _ _=>@AV.casesOn (fun _=>RR) v .fail (fun _ _=>.fail) (fun b=>br b (.fin .undef .nil 0) .fail) (fun _ _=>.fail) (fun _ _ _ _ _=>.fail) (fun _ _=>.fail) (fun _ _=>.fail) .fail .fail .fail .fail .fail (fun _=>.fail) (fun _ _=>.fail) (fun _=>.fail) (fun _=>.fail) .fail (fun _ _=>.fail) (fun _=>.fail) (fun _ _ _=>.fail)
def runA (l:List AV):RR:=(lv (cxT exM) 500).call 3 l h0 10 chkT
def isFin (r:RR):Bool:=@RR.casesOn (fun _=>Bool) r false (fun _ _ _=>false) (fun _ _ _ _=>false) (fun _ _ _=>false) (fun v _ n=>match v with | .undef=>Nat.beq n 0 | _=>false)
def allR (f:Nat→RR) (c:Nat):Nat→Bool:=@Nat.rec (fun _=>Nat→Bool) (fun _=>true) (fun _ go i=>br (isFin (f i)) (frc (i + 1) go) false) c
end
end
end Go.Proofs.Aud
