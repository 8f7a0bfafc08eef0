/- A part of the proof of BootCands: the program run by the evaluator. No condition. -/
import Derived.Test.YtjpelmgihpmohaaGreatDoorVBMain
import Derived.Test.YtjpelmgihpmohaaGreatDoorRows
import Derived.OpenShut
import Derived.ChangeOld
import Derived.LaidHandle
import Derived.Handed
set_option linter.all false
namespace Go.Proofs.Aud
noncomputable section
noncomputable section
open Go Go.VE Go.Proofs.YtjpelmgihpmohaaGreatDoor
set_option maxRecDepth 100000

theorem ints_of_trod {P:Program} {w:World} {base:Nat} {sp:Nat→Bool} {held:Bool} {fuel n:Nat} {t e:TypeId} {k:IntKind} {zs:List Int} {cs:List Value} {p:List MemPlace} (ht:P.underlying t=some (.array n e)) (he:P.underlying e=some (.int k)) (hc:P.cellsOf e=1)
  (h:DataW.trod (fun _=>()) P w base sp held fuel t cs=some (.agg (zs.map fun z=>.lit (.int k z)),p)):zs.length=n∧∀ i (hi:i < zs.length),cs[i]?=some (.int k (zs[i]'hi))∧inK k (zs[i]'hi):=by
 obtain ⟨xs,m,_,hx,_,hl,hat⟩:=DataW.trod_array ht h
 simp only [Prod.mk.injEq,DataW.agg.injEq] at hx
 have hz:zs.length=xs.length:=by have:=congrArg List.length hx.1; simpa using this
 refine ⟨by omega,fun i hi=>?_⟩
 have h1:=hat i (by omega)
 rw [hc,Nat.mul_one,List.getElem?_eq_getElem (by omega)] at h1
 obtain ⟨z,e1,e2,e3⟩:=DataW.trod_int he h1
 have e4:(zs.map fun z=>DataW.lit (H:=Unit) (.int k z))[i]?=(xs.map (·.1))[i]?:=by rw [hx.1]
 rw [List.getElem?_map,List.getElem?_map,List.getElem?_eq_getElem hi,List.getElem?_eq_getElem (by omega:i < xs.length)] at e4
 simp only [Option.map_some,Option.some.injEq] at e4
 rw [e2] at e4
 simp only [DataW.lit.injEq,Lit.int.injEq,true_and] at e4
 subst e4
 refine ⟨?_,?_⟩
 ·have:=congrArg (fun l=>l[0]?) e1
  simpa using this
 ·simp only [Lit.wf,Bool.and_eq_true,decide_eq_true_eq] at e3
  exact e3
def w0:World:=(begin Tryz.prog (fun _ _=>0) default).world
theorem var_block {W:World} (hs:W.ShapedOpen Tryz.prog) {g:Nat} (hg:g < 9) (h:((w0.heap[g]?).bind Obj.row?).isSome=true):∃ cs t,W.heap[g]?=some (.cells cs t (0,0)):=by
 obtain ⟨x,hx⟩:=Option.isSome_iff_exists.1 h
 obtain ⟨zero,t⟩:=x
 obtain ⟨cs,h1,_⟩:=hs.1 g zero t (by rw [tab_hb]; exact hg) hx
 exact ⟨cs,t,h1⟩
theorem size10 {W:World} (hs:W.ShapedOpen Tryz.prog):10≤W.heap.size:=by
 have h1:(w0.heap[9]?).isSome=true:=by kernel_rfl
 have h2:w0.heap[9]?.isSome=true→9 < w0.heap.size:=fun h=>by
  obtain ⟨x,hx⟩:=Option.isSome_iff_exists.1 h
  exact (Array.getElem?_eq_some_iff.1 hx).1
 obtain ⟨o,_,h4,_⟩:=hs.2 9 (by rw [tab_hb]; exact Nat.le_refl _) (h2 h1)
 have:=(Array.getElem?_eq_some_iff.1 h4).1
 omega
theorem LaidVars.mem {P:Program} {w:World}:∀ {l:List (String × DataW Unit)} {ps:List MemPlace},DataW.LaidVars P w l ps→∀ x ∈ l,∃ g t cs fuel p,P.globalNamed x.1=some g∧(P.globals[g]?).map (·.type)=some t∧w.var? P x.1=some cs∧DataW.trod (fun _=>()) P w 0 (fun _=>true) false fuel t cs.toList=some (x.2,p)
 | [],_,_,x,hx=>nomatch hx
 | (n,d) :: r,ps,h,x,hx=>by
  obtain ⟨g,t,cs,fuel,p,q,h1,h2,h3,h4,h5,_⟩:=h
  rcases List.mem_cons.1 hx with rfl | hx
  ·exact ⟨g,t,cs,fuel,p,h1,h2,h3,h4⟩
  ·exact LaidVars.mem h5 x hx
theorem rtype : (Tryz.prog.cutTypes.find? (·.1 == "internal/reflectlite.rtype")).map (·.2) = some 292 := by kernel_rfl
theorem tsize:Tryz.prog.types.size=558:=by kernel_rfl
theorem oneRow:((List.range 558).filter fun t=>Tryz.prog.rowNamed t [101,114,114,111,114])=[28]:=by kernel_rfl
theorem parts {W : World} (h : laidMetH Tryz.prog Rows.bootCandsRow.laid W) : (∃ ps, DataW.LaidVars Tryz.prog W (Rows.bootCandsRow.laid.filter fun x => x.2.handleName?.isNone) ps) ∧ handlesMet Tryz.prog [("errors.errorType", Rows.laid_errors_errorType)] W := by
 have h' : laidMet Tryz.prog (Rows.bootCandsRow.laid.filter fun x => x.2.handleName?.isNone) W ∧ handlesMet Tryz.prog [("errors.errorType", Rows.laid_errors_errorType)] W := h
 exact ⟨⟨_,h'.1.choose_spec.1⟩,h'.2⟩
theorem cell0 {W : World} (h : handlesMet Tryz.prog [("errors.errorType", Rows.laid_errors_errorType)] W) : W.var? Tryz.prog "errors.errorType" = some #[.iface 292 (.agg #[.pointer (some ⟨9, 28, none⟩)])] := by
 obtain ⟨name,u,ty,e1,e2,e3,e4,e5⟩:=h _ (List.mem_singleton.2 rfl)
 have en:name=[101,114,114,111,114]:=(Option.some.inj e1).symm
 subst en
 obtain rfl:=Option.some.inj (rtype.symm.trans e2)
 have hm:ty ∈ (List.range 558).filter fun t=>Tryz.prog.rowNamed t [101,114,114,111,114]:=List.mem_filter.2 ⟨List.mem_range.2 (by rw [← tsize]; exact e3),e4⟩
 rw [oneRow] at hm
 obtain rfl:=List.mem_singleton.1 hm
 have hh:typeHandle Tryz.prog 28=.pointer (some ⟨9,28,none⟩):=by kernel_rfl
 rw [hh] at e5
 exact e5
end
end
end Go.Proofs.Aud
