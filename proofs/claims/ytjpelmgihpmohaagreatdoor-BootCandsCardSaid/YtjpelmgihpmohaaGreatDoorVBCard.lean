/- A part of the proof of BootCands: the program run by the evaluator. No condition. -/
import Derived.Test.YtjpelmgihpmohaaGreatDoorVBLaw
import Derived.Test.YtjpelmgihpmohaaGreatDoorVBTie
import Derived.Test.YtjpelmgihpmohaaGreatDoorVBWit
import Derived.Test.YtjpelmgihpmohaaGreatDoorVBJoin
import Derived.Test.YtjpelmgihpmohaaGreatDoorVBJoin2
set_option linter.all false
/- The card of BootCands: for every input the call returns true and each argument reads as it read before; what the listed package variables hold is tied to the program's text. No condition beyond the row's own. -/
namespace Go.Proofs.Aud
noncomputable section
noncomputable section
open Go Go.VE Go.Proofs.YtjpelmgihpmohaaGreatDoor Go.ChangeShapes Go.WideShapes Go.ChangeAt Go.RowKit
set_option maxRecDepth 100000
theorem own:ownKnob Tryz.prog.godebug=none:=by kernel_rfl
theorem returnsS {H:Type} {enc:TypeId × Value→H} {a:Assume} {C:Checked} {os:Os} {f:FuncId} {fn:Func} {s:ChangeSpec} {conds:List PathCond} {apart fresh handsOn again:Bool} {X:World→Array Value→Prop}
  (hX:∀ (w w':World) (args:Array Value),w.heap=w'.heap→X w args→X w' args)
  (own:ownKnob C.prog.godebug=none) (started:os.Started) (noInit:C.prog.inits.idxOf? f=none) (hfn:C.prog.funcs[f]?=some fn)
  (witness:∃ (w:World) (tape:Tape) (i:Input),w.os=os∧(w.forCall tape i).Shaped C.prog∧i.vars=[]∧Input.okWide C.prog (w.forCall tape i) .any w.heap.size f i∧
   ((s.pre enc C.prog fn conds apart (w.forCall tape i).memory i.args∧X (w.forCall tape i).memory i.args)∧sizedMet enc C.prog fn (OpenSpec.ofChange s) apart (w.forCall tape i).memory i.args)∧a.holds C.prog (lone (Frame.enter C.prog f i.args .normal) [] (w.forCall tape i)))
  (contract:∀ (W:World) (base:Nat) (args:Array Value) (ds gs:List (DataW H)) (before:List MemPlace),W.ShapedOpen C.prog→
   (∀ (j:Nat) t v,fn.params[j]?=some t→args[j]?=some v→Value.okWide C.prog W .any base t v)→
   DataW.Whole enc C.prog fn.params.toList s.vars apart W args.toList ds gs before→X W args→
   Calls C.prog f args W fun e W'=>∃ v,e=.returned v∧s.post enc C.prog fn apart fresh handsOn again W args v W'):
  ReturnsInHanded a C os f .any (fun w args=>(s.pre enc C.prog fn conds apart w args∧X w args)∧sizedMet enc C.prog fn (OpenSpec.ofChange s) apart w args) (s.post enc C.prog fn apart fresh handsOn again):=by
 refine returnsInHanded_of_calls own started noInit witness fun w tape i _ hsh _ hok hpre _=>?_
 obtain ⟨_,_,_,fn',hfn',_,_,_,_,hval⟩:=hok
 obtain rfl:fn'=fn:=Option.some.inj (hfn'.symm.trans hfn)
 obtain ⟨⟨⟨ds,gs,before,hw,_⟩,hx⟩,_⟩:=hpre
 refine (contract (w.forCall tape i) w.heap.size i.args ds gs before hsh hval (DataW.Whole.of_heap (w':=w.forCall tape i) (by rfl) hw) (hX _ _ _ (by rfl) hx)).mono fun e W' ⟨v,he,hp⟩=>?_
 subst he
 exact ChangeSpec.post_blind hp
theorem lifted (os:Os) (started:os.Started) (H:Type) (enc:TypeId × Value→H):
  ReturnsInHanded {} Tryz.checked os 3 .any (fun w args=>(Rows.bootCandsSpec.pre enc Tryz.prog Tryz.f3 Rows.bootCandsRow.domain false w args∧laidMetH Tryz.prog Rows.bootCandsRow.laid w)∧sizedMet enc Tryz.prog Tryz.f3 (OpenSpec.ofChange Rows.bootCandsSpec) false w args)
   (Rows.bootCandsSpec.post enc Tryz.prog Tryz.f3 false true false false):=by
 refine returnsS (C:=Tryz.checked) (X:=fun w _=>laidMetH Tryz.prog Rows.bootCandsRow.laid w) (fun _ _ _ hh h=>h.of_heap hh) own started (by kernel_rfl) Tryz.func3
  (ChangeSpec.witness_shaped (enc:=enc) (C:=Tryz.checked) (os:=os) (X:=fun w _=>laidMetH Tryz.prog Rows.bootCandsRow.laid w) false (wit os) #[.int .i64 0,.int .i64 0] 8 (wit_os os) (wit_shaped os _) (by kernel_rfl) (by kernel_rfl) (by kernel_rfl) (wit_met os _)) ?_
 intro W base args ds gs before hsh hval0 hW hL
 have hval:∀ (j:Nat) t v,Tryz.f3.params[j]?=some t→args[j]?=some v→Value.okWide Tryz.prog W .any base t v:=hval0
 have hW':=hW
 obtain ⟨p,q,hA0,hV,rfl,hfz,hnd⟩:=hW
 have hA:DataW.TrodAll enc Tryz.prog W 0 (fun _=>true) true Tryz.f3.params.toList args.toList ds p:=hA0
 rw [Tryz.params3] at hA hval
 obtain ⟨v0,vs0,d0,ds0,p0,q0,hargs,rfl,rfl,k0,r0⟩:=trodAll_cons hA
 obtain ⟨v1,vs1,d1,ds1,p1,q1,rfl,rfl,rfl,k1,r1⟩:=trodAll_cons r0
 obtain ⟨rfl,rfl,rfl⟩:=trodAll_nil r1
 obtain rfl:args=#[v0,v1]:=by cases args; simp_all
 obtain ⟨rfl,rfl⟩:=trodVars_none hV
 obtain ⟨a0,rfl,rfl,rfl,w0⟩:=open_int Tryz.underlying3 (hval 0 3 v0 rfl rfl) k0
 obtain ⟨a1,rfl,rfl,rfl,w1⟩:=open_int Tryz.underlying3 (hval 1 3 v1 rfl rfl) k1
 clear hA0 hval0
 have hh0:inK .i64 a0:=by
  simp only [Lit.wf,Bool.and_eq_true,decide_eq_true_eq] at w0
  exact w0
 have hh1:inK .i64 a1:=by
  simp only [Lit.wf,Bool.and_eq_true,decide_eq_true_eq] at w1
  exact w1
 refine (calls a0 a1 hh0 hh1 hsh hL).mono fun e W' ⟨he,bel⟩=>?_
 subst he
 exact ⟨_,rfl,_,_,_,[],_,[],hW',trodAll_mk1 (shut_bool Tryz.underlying4 _),trodAll_mk2 (shut_int Tryz.underlying3 w0) (shut_int Tryz.underlying3 w1),rfl,bel _,fun h=>by cases h⟩
theorem wrap:Tryz.f3.isWrapper Tryz.prog Rows.bootCandsRow.wrapper Rows.bootCandsRow.mainSum:=by
 unfold Func.isWrapper; first | (rw [if_pos (by decide +kernel)]; kernel_rfl) | (rw [if_neg (by decide +kernel)]; exact ⟨rfl,rfl⟩)
theorem named3:Tryz.pinned.checked.prog.funcNamed Rows.bootCandsRow.func=some 3:=by kernel_rfl
theorem inst:Tryz.f3.isInstance Tryz.prog Rows.bootCandsRow.origin Rows.bootCandsRow.targs:=of_decide_eq_true (by kernel_rfl)
theorem over:Rows.bootCandsRow.holds Tryz.pinned (OpenSpec.ofChange Rows.bootCandsSpec):=
 OpenClaim.holds_of_wide 3 Tryz.f3 rfl rfl rfl rfl rfl rfl rfl ⟨rfl,rfl,rfl,rfl,rfl⟩ rfl rfl rfl rfl rfl named3 Tryz.func3 closed inst wrap (fun os started H enc _=>lifted os started H enc)
theorem stands:([3].all fun u=>!Tryz.prog.wantsStandIn u)=true:=by kernel_rfl
theorem mainIs : Tryz.pinned.checked.prog.mainIs = some (true, "785f4ad4adeb8c19b95feeeb59783b86fe8f0b18e81ea564fe252fc6f507f039".toList) := by kernel_rfl
theorem card:Rows.BootCandsCardSaid:=
 Claim7.holds_tied_plain_at .later [] [.data, .data, .data, .pinned, .data, .handle, .sentinel, .sentinel] true (true, "785f4ad4adeb8c19b95feeeb59783b86fe8f0b18e81ea564fe252fc6f507f039") true over (fun _ h => by cases h) wf_is (fun _ h => by cases h) Own.bootCands_row_tie rfl ⟨rfl, rfl⟩ mainIs rfl
  (fun f fn hf hfn=>by
   obtain rfl:f=3:=Option.some.inj (named3.symm.trans hf) |>.symm
   obtain rfl:fn=Tryz.f3:=(Option.some.inj (Tryz.func3.symm.trans hfn)).symm
   exact ⟨looks_is,fun j t ht=>by
    rw [Tryz.params3] at ht
    have hm:t ∈ [3]:=by
     have:=Array.mem_of_getElem? ht
     simp at this ⊢
     exact this
    exact (show Tryz.prog.wantsStandIn t=false by simpa using List.all_eq_true.1 stands t hm)⟩)
  goes_is
#print axioms card
end
end
end Go.Proofs.Aud
namespace Go.Proofs.YtjpelmgihpmohaaGreatDoor
theorem bootCands_holds:Rows.BootCandsCardSaid:=Aud.card
end Go.Proofs.YtjpelmgihpmohaaGreatDoor
