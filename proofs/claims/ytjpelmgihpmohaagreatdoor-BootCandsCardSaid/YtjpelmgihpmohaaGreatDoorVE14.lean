/- The evaluator, part 14: definitions and their laws, over any program. No condition. -/
import Derived.Test.YtjpelmgihpmohaaGreatDoorVE13
set_option linter.all false
namespace Go.VE
noncomputable section
open Go
section
variable {P:Program} {tb:Tb} {o:Oper}
theorem zc8 {t:TypeId} {i:TypeInfo} (h:tb.types.get (t + 1)=some i):size tb t=i.size:=by unfold size; rw [h]
theorem zs7 (t:TypeId):isAg tb t=aggD (und tb t):=by unfold isAg; cases und tb t<;>rfl
theorem zor {t:TypeId} (h:isU8 tb t=true):und tb t=.int .u8:=by
 unfold isU8 at h
 cases hu:und tb t with
 | int k=>rw [hu] at h; cases k<;>first | rfl | cases h
 | _=>rw [hu] at h; cases h
theorem ze8 {t:TypeId} {z:AV} (hT:TbOk P tb) (h:zhr tb t=some z):∃ i zv,tb.types.get (t + 1)=some i∧P.info? t=some i∧i.zero=some zv∧lowV zv=some z:=by
 unfold zhr at h
 cases hg:tb.types.get (t + 1) with
 | none=>rw [hg] at h; cases h
 | some i=>
  rw [hg] at h
  simp only at h
  cases hz:i.zero with
  | none=>rw [hz] at h; cases h
  | some zv=>rw [hz] at h; exact ⟨i,zv,rfl,hT.info _ _ hg,hz,h⟩
theorem zee {t:TypeId} {l:AV} (hT:TbOk P tb) (h:zb4 tb t=some l) (ho:okCs l=true):∃ i zv,tb.types.get (t + 1)=some i∧P.info? t=some i∧i.zero=some zv∧∀ ρ:Mp,relL ρ l zv.cells.toList:=by
 unfold zb4 at h
 cases hz:zhr tb t with
 | none=>rw [hz] at h; cases h
 | some z=>
  rw [hz] at h; cases h
  obtain ⟨i,zv,h1,h2,h3,h4⟩:=ze8 hT hz
  exact ⟨i,zv,h1,h2,h3,fun ρ=>zet ho (zez ρ zv z h4)⟩
theorem zzh {c x y:Operand} (hop:o.op=.pick c x y):OpOk P tb o:=by
 intro ds ls e a ρ h n w call k rr Q hc hf hi hr hne
 rw [hop] at hr
 obtain ⟨s,t,u,h1,h2,h3,hk⟩:=ztp hr hne
 have g1:=hf c (by rw [hop]; simp [Op.operands]) s h1
 have g2:=hf x (by rw [hop]; simp [Op.operands]) t h2
 have g3:=hf y (by rw [hop]; simp [Op.operands]) u h3
 obtain ⟨b,e1,e2⟩:=zhv (show (asBool (s ls e) fun b=>br b (k (t ls e) h n) (k (u ls e) h n))=rr from hk) hne
 rw [e1] at g1
 simp only [rel] at g1
 cases b with
 | true=>exact zqw hi (by simp [execOp,hop,g1,Go.asBool]) e2 g2
 | false=>exact zqw hi (by simp [execOp,hop,g1,Go.asBool]) e2 g3
theorem ok_box {t:TypeId} {x:Operand} (hop:o.op=.box t x):OpOk P tb o:=by
 intro ds ls e a ρ h n w call k rr Q hc hf hi hr hne
 rw [hop] at hr
 obtain ⟨s,h1,hk⟩:=za7 hr hne
 exact za5 (by simp only [execOp,hop]) (zz5 (t:=t) hi hne (hf x (by rw [hop]; simp [Op.operands]) s h1) hk)
theorem zwe {t:TypeId} {x y:Operand} (hT:TbOk P tb) (hop:o.op=.store t x y) (hu:und tb t≠.invalid):OpOk P tb o:=by
 intro ds ls e a ρ h n w call k rr Q hc hf hi hr hne
 rw [hop] at hr
 obtain ⟨s,u,h1,h2,hk⟩:=zb9 hr hne
 obtain ⟨_,i,g1,g2⟩:=hT.und rfl hu
 refine zx5 (by simp only [execOp,hop]) (zny hi hne (hf x (by rw [hop]; simp [Op.operands]) s h1) (hf y (by rw [hop]; simp [Op.operands]) u h2) g2 ?_)
 rw [← zc8 g1]; exact hk
theorem znf {t:TypeId} {m x v:Operand} (hT:TbOk P tb) (hop:o.op=.mapUpdate t m x v∨o.op=.insert t m x v):OpOk P tb o:=by
 intro ds ls e a ρ h n w call k rr Q hc hf hi hr hne
 have hr':zbb ds tb (.mapUpdate t m x v) call ls e h n k=rr:=by rcases hop with hop | hop<;>rw [hop] at hr<;>exact hr
 have hx:execOp a.eval o=(do Instr.mapUpdate t (a.eval m) (a.eval x) (a.eval v); pure Next.skip):=by rcases hop with hop | hop<;>simp only [execOp,hop]
 have hm:m ∈ o.op.operands∧x ∈ o.op.operands∧v ∈ o.op.operands:=by rcases hop with hop | hop<;>rw [hop]<;>simp [Op.operands]
 simp only [zbb] at hr'
 cases hu:und tb t with
 | map kt et=>
  rw [hu] at hr'
  simp only at hr'
  have go:∀ {ks:Bool},KeyT P ks kt→ok3 ds m x v (zgr ks) call ls e h n k=rr→o.wp P a w (zel ρ h n w k rr a o.dst) Q:=fun hk h0=>by
   obtain ⟨s,t',u,h1,h2,h3,hk'⟩:=ztp h0 hne
   exact zx5 hx (zrr hi hne (hf m hm.1 s h1) (hf x hm.2.1 t' h2) (hf v hm.2.2 u h3) (hT.und hu (by simp)).1 hk hk')
  cases hk:und tb kt with
  | int kd=>rw [hk] at hr'; exact go ⟨_,(hT.und hk (by simp)).1,.inr ⟨rfl,kd,rfl⟩⟩ hr'
  | string=>rw [hk] at hr'; exact go ⟨_,(hT.und hk (by simp)).1,.inl ⟨rfl,rfl⟩⟩ hr'
  | _=>rw [hk] at hr'; exact absurd hr'.symm hne
 | _=>rw [hu] at hr'; exact absurd hr'.symm hne
theorem zzi {op:UnOp} {t:TypeId} {x:Operand} (hop:o.op=.unOp op t x):OpOk P tb o:=by
 intro ds ls e a ρ h n w call k rr Q hc hf hi hr hne
 rw [hop] at hr
 simp only [zbb] at hr
 have hxo:x ∈ o.op.operands:=by rw [hop]; simp [Op.operands]
 cases op with
 | not=>
  obtain ⟨s,h1,hk⟩:=za7 hr hne
  exact za5 (by simp only [execOp,hop]) (z0f hi hne (hf x hxo s h1) hk)
 | neg=>
  cases hu:und tb t with
  | int kd=>
   rw [hu] at hr
   obtain ⟨s,h1,hk⟩:=za7 hr hne
   exact za5 (by simp only [execOp,hop]) (z0d hi hne (hf x hxo s h1) hk)
  | _=>rw [hu] at hr; exact absurd hr.symm hne
 | _=>exact absurd hr.symm hne
theorem zzg {t:TypeId} {x:Operand} (hT:TbOk P tb) (hop:o.op=.makeInterface t x) (hu:und tb t≠.invalid):OpOk P tb o:=by
 intro ds ls e a ρ h n w call k rr Q hc hf hi hr hne
 rw [hop] at hr
 simp only [zbb] at hr
 have hxo:x ∈ o.op.operands:=by rw [hop]; simp [Op.operands]
 have hni:∀ ms,und tb t≠.interface ms:=fun ms hms=>by rw [hms] at hr; exact absurd hr.symm hne
 have hr':ok1 ds x (zv4 t) call ls e h n k=rr:=by
  revert hr hni
  cases und tb t<;>intro hr hni<;>first | exact hr | exact absurd rfl (hni _)
 obtain ⟨s,h1,hk⟩:=za7 hr' hne
 exact za5 (by simp only [execOp,hop]) (zxb hi hne (hf x hxo s h1) (hT.und rfl hu).1 hni hk)
theorem ok_ext {x:Operand} {i:Nat} (hop:o.op=.extract x i):OpOk P tb o:=by
 intro ds ls e a ρ h n w call k rr Q hc hf hi hr hne
 rw [hop] at hr
 obtain ⟨s,h1,hk⟩:=za7 hr hne
 exact za5 (by simp only [execOp,hop]) (zz9 hi hne (hf x (by rw [hop]; simp [Op.operands]) s h1) hk)
theorem zwb {t:TypeId} {x:Operand} {f:Nat} (hT:TbOk P tb) (hop:o.op=.field t x f) (hu:∀ fs fd,und tb t=.struct fs→fs[f]?=some fd→und tb fd.type≠.invalid):OpOk P tb o:=by
 intro ds ls e a ρ h n w call k rr Q hc hf hi hr hne
 rw [hop] at hr
 simp only [zbb] at hr
 cases hs:und tb t with
 | struct fs=>
  rw [hs] at hr
  simp only at hr
  rw [zc5,Array.getElem?_toList] at hr
  cases hfd:fs[f]? with
  | none=>rw [hfd] at hr; exact absurd hr.symm hne
  | some fd=>
   rw [hfd] at hr
   simp only at hr
   obtain ⟨s,h1,hk⟩:=za7 hr hne
   obtain ⟨g1,i,g2,g3⟩:=hT.und rfl (hu fs fd hs hfd)
   refine za5 (by simp only [execOp,hop]) (zxe hi hne (hf x (by rw [hop]; simp [Op.operands]) s h1) (hT.und hs (by simp)).1 hfd g3 g1 ?_)
   have hk':zwg fd.offset (bif isAg tb fd.type then some (size tb fd.type) else none) (s ls e) h n k=rr:=hk
   rw [zs7,zc8 g2] at hk'
   rw [← hk']
   cases aggD (und tb fd.type)<;>rfl
 | _=>rw [hs] at hr; exact absurd hr.symm hne
theorem znd {t:TypeId} {x y:Operand} (hT:TbOk P tb) (hop:o.op=.indexAddr t x y) (hu:∀ et,(und tb t=.slice et∨∃ m,und tb t=.array m et)→und tb et≠.invalid):OpOk P tb o:=by
 intro ds ls e a ρ h n w call k rr Q hc hf hi hr hne
 rw [hop] at hr
 simp only [zbb] at hr
 have hx:x ∈ o.op.operands∧y ∈ o.op.operands:=by rw [hop]; simp [Op.operands]
 cases hs:und tb t with
 | array m et=>
  rw [hs] at hr
  obtain ⟨s,u,h1,h2,hk⟩:=zb9 hr hne
  obtain ⟨_,i,g2,g3⟩:=hT.und rfl (hu et (.inr ⟨m,hs⟩))
  rw [zc8 g2] at hk
  exact za5 (by simp only [execOp,hop]) (zru hi hne (hf x hx.1 s h1) (hf y hx.2 u h2) (hT.und hs (by simp)).1 g3 hk)
 | slice et=>
  rw [hs] at hr
  obtain ⟨s,u,h1,h2,hk⟩:=zb9 hr hne
  obtain ⟨_,i,g2,g3⟩:=hT.und rfl (hu et (.inl hs))
  rw [zc8 g2] at hk
  exact za5 (by simp only [execOp,hop]) (zuw hi hne (hf x hx.1 s h1) (hf y hx.2 u h2) (hT.und hs (by simp)).1 g3 hk)
 | _=>rw [hs] at hr; exact absurd hr.symm hne
theorem zwc {t:TypeId} {x y:Operand} (hT:TbOk P tb) (hop:o.op=.index t x y) (hu:∀ m et,und tb t=.array m et→und tb et≠.invalid):OpOk P tb o:=by
 intro ds ls e a ρ h n w call k rr Q hc hf hi hr hne
 rw [hop] at hr
 simp only [zbb] at hr
 have hx:x ∈ o.op.operands∧y ∈ o.op.operands:=by rw [hop]; simp [Op.operands]
 cases hs:und tb t with
 | array m et=>
  rw [hs] at hr
  obtain ⟨s,u,h1,h2,hk⟩:=zb9 hr hne
  obtain ⟨g1,i,g2,g3⟩:=hT.und rfl (hu m et hs)
  rw [zc8 g2,zs7] at hk
  exact za5 (by simp only [execOp,hop]) (zw5 hi hne (hf x hx.1 s h1) (hf y hx.2 u h2) (hT.und hs (by simp)).1 g3 g1 hk)
 | string=>
  rw [hs] at hr
  obtain ⟨s,u,h1,h2,hk⟩:=zb9 hr hne
  exact za5 (by simp only [execOp,hop]) (zw6 hi hne (hf x hx.1 s h1) (hf y hx.2 u h2) (hT.und hs (by simp)).1 hk)
 | _=>rw [hs] at hr; exact absurd hr.symm hne
theorem zts {t:TypeId} {x y:Operand} {ok:Bool} (hT:TbOk P tb) (hop:o.op=.lookup t x y ok):OpOk P tb o:=by
 intro ds ls e a ρ h n w call k rr Q hc hf hi hr hne
 rw [hop] at hr
 simp only [zbb] at hr
 have hx:x ∈ o.op.operands∧y ∈ o.op.operands:=by rw [hop]; simp [Op.operands]
 cases hs:und tb t with
 | map kt et=>
  rw [hs] at hr
  simp only at hr
  cases hz:zhr tb et with
  | none=>rw [hz] at hr; exact absurd hr.symm hne
  | some z=>
   obtain ⟨i,zv,z1,z2,z3,z4⟩:=ze8 hT hz
   have go:∀ {ks:Bool},KeyT P ks kt→ok2 ds x y (zc7 ks z ok) call ls e h n k=rr→o.wp P a w (zel ρ h n w k rr a o.dst) Q:=fun hk h0=>by
    obtain ⟨s,u,h1,h2,hk'⟩:=zb9 h0 hne
    exact za5 (by simp only [execOp,hop]) (zrv hi hne (hf x hx.1 s h1) (hf y hx.2 u h2) (hT.und hs (by simp)).1 hk z2 z3 (zez ρ zv z z4) hk')
   cases hk:und tb kt with
   | int kd=>rw [hz,hk] at hr; exact go ⟨_,(hT.und hk (by simp)).1,.inr ⟨rfl,kd,rfl⟩⟩ hr
   | string=>rw [hz,hk] at hr; exact go ⟨_,(hT.und hk (by simp)).1,.inl ⟨rfl,rfl⟩⟩ hr
   | _=>rw [hz,hk] at hr; exact absurd hr.symm hne
 | _=>rw [hs] at hr; exact absurd hr.symm hne
theorem zrh {t:TypeId} (hop:o.op=.makeMap t none):OpOk P tb o:=by
 intro ds ls e a ρ h n w call k rr Q hc hf hi hr hne
 rw [hop] at hr
 exact za5 (s:=Instr.makeMap t none) (by simp only [execOp,hop]; rfl) (zu4 hi hne hr)
theorem zv8 {x:Operand} {t t':TypeId} (hT:TbOk P tb) (hop:o.op=.typeAssert x t' t true) (hn:∀ ms,und tb t≠.interface ms) (hu:und tb t≠.invalid):OpOk P tb o:=by
 intro ds ls e a ρ h n w call k rr Q hc hf hi hr hne
 rw [hop] at hr
 simp only [zbb] at hr
 have hr':(match zhr tb t with | some z=>ok1 ds x (ztk t z) | none=>oBad) call ls e h n k=rr:=by
  revert hr hn
  cases und tb t<;>intro hn hr<;>first | exact hr | exact absurd rfl (hn _)
 cases hz:zhr tb t with
 | none=>rw [hz] at hr'; exact absurd hr'.symm hne
 | some z=>
  rw [hz] at hr'
  obtain ⟨i,zv,z1,z2,z3,z4⟩:=ze8 hT hz
  obtain ⟨s,h1,hk⟩:=za7 hr' hne
  exact za5 (by simp only [execOp,hop]) (zut (t:=t') hi hne (hf x (by rw [hop]; simp [Op.operands]) s h1) (hT.und rfl hu).1 hn z2 z3 (zez ρ zv z z4) hk)
end
end
end Go.VE
namespace Go.VE
noncomputable section
open Go
section
variable {P:Program} {tb:Tb} {o:Oper}
theorem zxh {a:Act} {ρ:Mp} {h:H} {n:Nat} {w:World} {k:K} {rr:RR} {Q:Exit→Act→World→Prop} {f:Nat} {as:Array Value} (hx:(execOp a.eval o).run P w=.ok (.enter f as) w) (hcl:Calls P f as w (zu9 ρ h n w k rr)):
  o.wp P a w (zel ρ h n w k rr a o.dst) Q:=by
 unfold Oper.wp
 rw [hx]
 refine Calls.mono hcl fun ex w' he=>?_
 obtain ⟨rv,rfl,hp⟩:=he
 exact ⟨rv,rfl,hp⟩
theorem zu7 {a:Act} {ρ:Mp} {h:H} {n:Nat} {w:World} {k:K} {rr:RR} {Q:Exit→Act→World→Prop} {f:Nat} {args:List AV} {as:List Value} (hl:CallLaw P f args h n k rr) (hi:Inv ρ h n w) (ha:relS ρ args as)
  (hx:(execOp a.eval o).run P w=(callFunc f as.toArray).run P w):o.wp P a w (zel ρ h n w k rr a o.dst) Q:=by
 rcases hl with ⟨hcl,hcall⟩ | hext
 ·exact zxh (hx.trans (zid hcl _ _)) (hcall ρ w as hi ha)
 ·obtain ⟨rv,w',h1,h2⟩:=hext ρ w as hi ha
  unfold Oper.wp
  rw [hx,h1]
  exact ⟨rv,rfl,h2⟩
theorem zok {ρ:Mp} {ds:List (Option Nat)} {ls:List AV} {e:Env} {a:Act}:∀ {xs:List Operand} {ss:List Sx},zfc ds xs=some ss→(∀ x ∈ xs,Fits ρ ds ls e a x)→relS ρ (evL ss ls e) (xs.map a.eval)
 | [],ss,h,_=>by cases h; simp only [evL,relS,List.map_nil]
 | x :: xs,ss,h,hf=>by
  simp only [zfc] at h
  cases h1:lowS ds x with
  | none=>rw [h1] at h; cases h
  | some s=>
   cases h2:zfc ds xs with
   | none=>rw [h1,h2] at h; cases h
   | some l=>
    rw [h1,h2] at h; cases h
    simp only [evL,relS,List.map_cons]
    exact ⟨_,_,rfl,hf x List.mem_cons_self s h1,zok h2 fun y hy=>hf y (List.mem_cons_of_mem _ hy)⟩
theorem zj2 {ρ:Mp}:∀ {l m:List AV} {vs us:List Value},relS ρ l vs→relS ρ m us→relS ρ (l ++ m) (vs ++ us)
 | [],m,vs,us,h1,h2=>by simp only [relS] at h1; subst h1; exact h2
 | a :: l,m,vs,us,h1,h2=>by
  simp only [relS] at h1
  obtain ⟨v,r,rfl,g1,g2⟩:=h1
  simp only [List.cons_append,relS]
  exact ⟨v,r ++ us,rfl,g1,zj2 g2 h2⟩
theorem zzd {c:Call} (hop:o.op=.call c) (hcal:∃ f,c.callee=.value f):OpOk P tb o:=by
 intro ds ls e a ρ h n w call k rr Q hc hf hi hr hne
 obtain ⟨f,hcf⟩:=hcal
 rw [hop] at hr
 simp only [zbb] at hr
 have hops:∀ x,x ∈ c.args.toList∨x=f→x ∈ o.op.operands:=by
  intro x hx
  rw [hop]
  rcases hx with hx | rfl
  ·simp only [Op.operands,Call.operands,hcf]; simp [Array.mem_toList_iff.1 hx]
  ·simp only [Op.operands,Call.operands,hcf]; simp
 cases hs:zfc ds c.args.toList with
 | none=>rw [hs] at hr; exact absurd hr.symm hne
 | some ss=>
  rw [hs] at hr
  simp only at hr
  rw [hcf] at hr
  have hrel:=zok (ρ:=ρ) (ls:=ls) (e:=e) (a:=a) hs (fun x hx=>hf x (hops x (.inl hx)))
  have hfr:∀ u,lowS ds f=some u→zc1 u ss call ls e h n k=rr→o.wp P a w (zel ρ h n w k rr a o.dst) Q:=by
   intro u hu hk
   have hk':zpn call (u ls e) (evL ss ls e) h n k=rr:=hk
   have hfv:=hf f (hops f (.inr rfl)) u hu
   generalize u ls e=v at hfv hk'
   cases v<;>try exact absurd hk'.symm hne
   rename_i g caps
   simp only [rel] at hfv
   obtain ⟨cs,hfe,hcaps⟩:=hfv
   refine zu7 (hc g _ h n k rr hk' hne) hi (zj2 hrel (zt8 hcaps)) ?_
   have hx:(execOp a.eval o).run P w=(callFunc g (c.args.map a.eval ++ cs)).run P w:=by
    simp [execOp,hop,resolve,hcf,hfe,Deferred.ofValue,invoke]
   rw [hx]
   congr 2
   apply Array.ext'
   simp
  cases f with
  | func g=>
   have hk':call g (evL ss ls e) h n k=rr:=hr
   refine hfr (sC (.func g .nl)) rfl ?_
   show zpn call (.func g .nl) (evL ss ls e) h n k=rr
   simp only [zpn,toL,List.append_nil]
   exact hk'
  | _=>
   obtain ⟨u,hu,hk⟩:=za7 hr hne
   exact hfr u hu hk
end
end
end Go.VE
namespace Go.VE
noncomputable section
open Go
section
variable {P:Program} {tb:Tb} {o:Oper}
theorem zmv {name:String}:∀ {l:List Method} {f:Nat} {pr:Bool},hasM l name=some (f,pr)→∃ m,l.find? (·.name == name)=some m∧m.path.isEmpty=true∧m.func=some (f,pr)
 | [],_,_,h=>by cases h
 | m :: l,f,pr,h=>by
  simp only [hasM] at h
  cases hn:m.name == name with
  | true=>
   rw [hn,cond_true] at h
   cases hp:m.path.isEmpty with
   | true=>rw [hp,cond_true] at h; exact ⟨m,by simp [List.find?,hn],hp,h⟩
   | false=>rw [hp,cond_false] at h; cases h
  | false=>
   rw [hn,cond_false] at h
   obtain ⟨m',g1,g2,g3⟩:=zmv h
   exact ⟨m',by simp [List.find?,hn,g1],g2,g3⟩
theorem znr {name:String}:∀ {l:List TypeInfo} {k t f:Nat},zcr t (zcf tb name l k)=some f→∃ i pr,l[t - k]?=some i∧k≤t∧hasM i.methods.toList name=some (f,pr)∧
   zqb (zj8 tb.types i) pr=true
 | [],k,t,f,h=>by cases h
 | i :: l,k,t,f,h=>by
  have tail:zcr t (zcf tb name l (k + 1))=some f→∃ i' pr,(i :: l)[t - k]?=some i'∧k≤t∧hasM i'.methods.toList name=some (f,pr)∧zqb (zj8 tb.types i') pr=true:=fun h=>by
   obtain ⟨i',pr,g1,g2,g3,g4⟩:=znr h
   exact ⟨i',pr,by rw [show t - k=(t - (k + 1)) + 1 by omega,List.getElem?_cons_succ]; exact g1,by omega,g3,g4⟩
  simp only [zcf] at h
  cases hm:hasM i.methods.toList name with
  | none=>rw [hm] at h; exact tail h
  | some fp=>
   obtain ⟨f',pr⟩:=fp
   rw [hm] at h
   simp only at h
   cases hc:zqb (zj8 tb.types i) pr with
   | false=>rw [hc,cond_false] at h; exact tail h
   | true=>
    rw [hc,cond_true] at h
    unfold zcr at h
    cases hb:Nat.beq t k with
    | true=>
     rw [hb] at h
     have:=zak hb; subst this
     have:f'=f:=by simpa [br] using h
     subst this
     exact ⟨i,pr,by simp,Nat.le_refl _,hm,hc⟩
    | false=>rw [hb] at h; exact tail (by simpa [br] using h)
theorem ze3 {name:String}:∀ {l:List (Nat × String × Nat)} {t f:Nat},zcr t (ze2 name l)=some f→(t,name,f) ∈ l
 | [],_,_,h=>by cases h
 | (t',m,f') :: l,t,f,h=>by
  simp only [ze2] at h
  cases hm:m == name with
  | false=>rw [hm,cond_false] at h; exact List.mem_cons_of_mem _ (ze3 h)
  | true=>
   rw [hm,cond_true] at h
   have hmn:m=name:=by simpa using hm
   subst hmn
   unfold zcr at h
   cases hb:Nat.beq t t' with
   | true=>
    rw [hb] at h
    have:=zak hb; subst this
    have:f'=f:=by simpa [br] using h
    subst this
    exact List.mem_cons_self
   | false=>rw [hb] at h; exact List.mem_cons_of_mem _ (ze3 (by simpa [br] using h))
theorem ztr {c:Call} {r:Operand} {name:String} (hT:TbOk P tb) (hop:o.op=.call c) (hcf:c.callee=.invoke r name):OpOk P tb o:=by
 intro ds ls e a ρ h n w call k rr Q hc hf hi hr hne
 rw [hop] at hr
 simp only [zbb] at hr
 have hops:∀ x,x ∈ c.args.toList∨x=r→x ∈ o.op.operands:=by
  intro x hx
  rw [hop]
  rcases hx with hx | rfl
  ·simp only [Op.operands,Call.operands,hcf]; simp [Array.mem_toList_iff.1 hx]
  ·simp only [Op.operands,Call.operands,hcf]; simp
 cases hs:zfc ds c.args.toList with
 | none=>rw [hs] at hr; exact absurd hr.symm hne
 | some ss=>
  rw [hs] at hr
  simp only at hr
  rw [hcf] at hr
  have hrel:=zok (ρ:=ρ) (ls:=ls) (e:=e) (a:=a) hs (fun x hx=>hf x (hops x (.inl hx)))
  obtain ⟨u,hu,hk⟩:=za7 hr hne
  have hrv:=hf r (hops r (.inr rfl)) u hu
  have hk':zoq call (ze2 name tb.prom) (zcf tb name tb.list 0) (u ls e) (evL ss ls e) h n k=rr:=hk
  generalize u ls e=v at hrv hk'
  cases v<;>try exact absurd hk'.symm hne
  rename_i t v
  simp only [rel] at hrv
  obtain ⟨rv,hre,hrv⟩:=hrv
  simp only [zoq] at hk'
  have h0:(#[a.eval r] ++ c.args.map a.eval)[0]?=some (a.eval r):=by rw [Array.getElem?_append_left (by simp)]; rfl
  have hext:(#[a.eval r] ++ c.args.map a.eval).extract 1 (#[a.eval r] ++ c.args.map a.eval).size=c.args.map a.eval:=by
   apply Array.ext'
   simp only [Array.toList_extract,Array.toList_append,Array.toList_map,Array.size_append,Array.size_map,List.size_toArray,List.length_cons,List.length_nil]
   simp [List.extract]
   rw [List.take_of_length_le (by simp)]
  cases hpr:zcr t (ze2 name tb.prom) with
  | some f=>
   rw [hpr] at hk'
   simp only [invO] at hk'
   obtain ⟨a1,ha1,hk2⟩:∃ a1,v=.agg (.cons a1 .nl)∧call f (a1 :: evL ss ls e) h n k=rr:=by
    unfold callP at hk'
    split at hk'
    ·exact ⟨_,rfl,hk'⟩
    ·exact absurd hk'.symm hne
   subst ha1
   simp only [rel] at hrv
   obtain ⟨cs,rfl,hcs,_⟩:=hrv
   simp only [relL] at hcs
   obtain ⟨rv1,_,hcs,hrv1,rfl⟩:=hcs
   have hcs':cs=#[rv1]:=by rw [← Array.toArray_toList (xs:=cs),hcs]
   subst hcs'
   have hmeth:=hT.prom t name f (ze3 hpr) rv1 w
   refine zu7 (hc f _ h n k rr hk2 hne) hi (show relS ρ (a1 :: evL ss ls e) (rv1 :: c.args.toList.map a.eval) by simp only [relS]; exact ⟨rv1,_,rfl,hrv1,hrel⟩) ?_
   have hcm:(callMethod (a.eval r) name (c.args.map a.eval)).run P w=(callFunc f (#[rv1] ++ c.args.map a.eval)).run P w:=by
    rw [hre]
    simp only [callMethod,Sem.run_bind]
    have hprog:(program).run P w=.ok P w:=rfl
    rw [hprog]
    simp only [Result.andThen_ok]
    rw [hmeth]
    rfl
   have hx:(execOp a.eval o).run P w=(callFunc f (#[rv1] ++ c.args.map a.eval)).run P w:=by
    rw [← hcm]
    simp only [execOp,hop,resolve,hcf,Sem.run_bind,Sem.run_pure,Result.andThen_ok,invoke,h0,hext]
   rw [hx]
   congr 2
   apply Array.ext'
   simp
  | none=>
  rw [hpr] at hk'
  simp only [invO] at hk'
  cases hm:zcr t (zcf tb name tb.list 0) with
  | none=>rw [hm] at hk'; exact absurd hk'.symm hne
  | some f=>
   rw [hm] at hk'
   obtain ⟨i,pr,g1,_,g3,g4⟩:=znr hm
   obtain ⟨m,m1,m2,m3⟩:=zmv g3
   rw [Nat.sub_zero,hT.list] at g1
   have hinfo:=hT.info t i g1
   have hund:zj8 tb.types i≠.invalid:=fun e=>by rw [e] at g4; cases g4
   have hund2:=hT.und (t:=t) (d:=zj8 tb.types i) (by unfold und; rw [g1]) hund
   refine zu7 (hc f _ h n k rr hk' hne) hi (show relS ρ (v :: evL ss ls e) (rv :: c.args.toList.map a.eval) by simp only [relS]; exact ⟨rv,_,rfl,hrv,hrel⟩) ?_
   have hmeth:∀ fuel,(method (fuel + 1) t rv name).run P w=.ok (f,rv) w:=by
    intro fuel
    have hp:m.path.toList=[]:=by
     have:=m2
     rw [Array.isEmpty_iff] at this
     rw [this]
    have hfind:i.methods.find? (·.name == name)=some m:=by rw [← Array.find?_toList]; exact m1
    simp only [method,Sem.run_bind,zch hinfo,Result.andThen_ok,hfind,hp,follow,Sem.run_pure,m3]
    have hrec:∀ wr,(receiverAt t (.val rv) pr wr).run P w=.ok rv w:=by
     intro wr
     simp only [receiverAt,Sem.run_bind,zac hund2.1,Result.andThen_ok]
     revert g4
     cases zj8 tb.types i<;>cases pr<;>intro g4<;>first | (cases g4; done) | simp [Place.get]
    simp [hrec]
   have hext:(#[a.eval r] ++ c.args.map a.eval).extract 1 (#[a.eval r] ++ c.args.map a.eval).size=c.args.map a.eval:=by
    apply Array.ext'
    simp only [Array.toList_extract,Array.toList_append,Array.toList_map,Array.size_append,Array.size_map,List.size_toArray,List.length_cons,List.length_nil]
    simp [List.extract]
    rw [List.take_of_length_le (by simp)]
   have h0:(#[a.eval r] ++ c.args.map a.eval)[0]?=some (a.eval r):=by rw [Array.getElem?_append_left (by simp)]; rfl
   have hcm:(callMethod (a.eval r) name (c.args.map a.eval)).run P w=(callFunc f (#[rv] ++ c.args.map a.eval)).run P w:=by
    rw [hre]
    simp only [callMethod,Sem.run_bind]
    have hprog:(program).run P w=.ok P w:=rfl
    rw [hprog]
    simp only [Result.andThen_ok]
    have:=hmeth (P.types.size + 99)
    rw [show P.types.size + Made.depth=P.types.size + 99 + 1 from rfl,this]
    rfl
   have hx:(execOp a.eval o).run P w=(callFunc f (#[rv] ++ c.args.map a.eval)).run P w:=by
    rw [← hcm]
    simp only [execOp,hop,resolve,hcf,Sem.run_bind,Sem.run_pure,Result.andThen_ok,invoke,h0,hext]
   rw [hx]
   congr 2
   apply Array.ext'
   simp
end
end
end Go.VE
namespace Go.VE
noncomputable section
open Go
section
variable {P:Program} {tb:Tb} {o:Oper}
theorem zv6 {t:TypeId} (hT:TbOk P tb) (hop:o.op=.alloc t) (h8:∀ n e,und tb t=.array n e→isU8 tb e=true→∃ i,tb.types.get (t + 1)=some i∧i.zero=some (.agg (Array.replicate n (.int .u8 0))))
  (ho:∀ z,zb4 tb t=some z→okCs z=true):OpOk P tb o:=by
 intro ds ls e a ρ h n w call k rr Q hc hf hi hr hne
 rw [hop] at hr
 have gen:(match zb4 tb t with | some z=>oNew (zl4 (zvs tb t) t z) | none=>oBad) call ls e h n k=rr→o.wp P a w (zel ρ h n w k rr a o.dst) Q:=fun h0=>by
  cases hz:zb4 tb t with
  | none=>rw [hz] at h0; exact absurd h0.symm hne
  | some z=>
   rw [hz] at h0
   obtain ⟨i,zv,_,z2,z3,z4⟩:=zee hT hz (ho z hz)
   exact za5 (s:=Instr.alloc t true (.tuple #[])) (by simp only [execOp,hop]) (z0e hi hne z2 z3 (z4 ρ) (ho z hz) h0)
 by_cases harr:∃ m e',und tb t=.array m e'∧isU8 tb e'=true
 ·obtain ⟨m,e',hu,h1⟩:=harr
  simp only [zbb] at hr
  rw [hu] at hr
  simp only at hr
  rw [h1,cond_true] at hr
  obtain ⟨i,g1,g2⟩:=h8 m e' hu h1
  exact za5 (s:=Instr.alloc t true (.tuple #[])) (by simp only [execOp,hop]) (zxd hi hne (hT.info _ _ g1) g2 hr)
 ·refine gen ?_
  simp only [zbb] at hr
  cases hu:und tb t with
  | array m e'=>
   rw [hu] at hr
   simp only at hr
   have h1:isU8 tb e'=false:=by
    cases h1:isU8 tb e' with
    | false=>rfl
    | true=>exact absurd ⟨m,e',hu,h1⟩ harr
   rw [h1,cond_false] at hr
   exact hr
  | _=>rw [hu] at hr; exact hr
theorem zn8 {c:Call} {b:Builtin} {a:Act} {w:World} (hop:o.op=.call c) (hcb:c.callee=.builtin b):∃ consts,(execOp a.eval o).run P w=(builtin b c.argTypes o.type consts (c.args.map a.eval)).run P w:=by
 refine ⟨?_,?_⟩
 rotate_left
 ·simp only [execOp,hop,resolve,hcb,Sem.run_bind,Sem.run_pure,Result.andThen_ok,invoke]
  rfl
theorem zck {c:Call} {b:Builtin} {a:Act} {ρ:Mp} {h:H} {n:Nat} {w:World} {k:K} {rr:RR} {Q:Exit→Act→World→Prop} {s:Sem Value} (hop:o.op=.call c) (hcb:c.callee=.builtin b)
  (hs:∀ consts,builtin b c.argTypes o.type consts (c.args.map a.eval)=(do pure (Next.value (← s)))) (hv:Val P s ρ h n w k rr):o.wp P a w (zel ρ h n w k rr a o.dst) Q:=by
 obtain ⟨consts,hx⟩:=zn8 (P:=P) (a:=a) (w:=w) hop hcb
 rw [hs] at hx
 unfold Oper.wp
 obtain ⟨v,h',n',σ,w',rv,h1,h2,h3,h4⟩:=hv
 rw [hx]
 simp only [Sem.run_bind,h2,Result.andThen_ok,Sem.run_pure,Oper.upon]
 exact ⟨rv,rfl,v,h',n',σ,h1,h3,h4⟩
theorem argT {c:Call} {t:TypeId} (h0:0 < c.argTypes.size) (h:c.argTypes.getD 0 0=t):c.argTypes[0]?=some t:=by
 rw [← h]; simp [h0]
theorem zr3 {c:Call} {x:Operand} {a:Act} (h:c.args.toList=[x]):c.args.map a.eval=#[a.eval x]:=by
 apply Array.ext'; simp [h]
theorem zn2 {c:Call} {x y:Operand} {a:Act} (h:c.args.toList=[x,y]):c.args.map a.eval=#[a.eval x,a.eval y]:=by
 apply Array.ext'; simp [h]
theorem zb5 {c:Call} {b:Builtin} {x:Operand} (hop:o.op=.call c) (hcb:c.callee=.builtin b) (h:x ∈ c.args.toList):x ∈ o.op.operands:=by
 rw [hop]; simp only [Op.operands,Call.operands,hcb]; simp [Array.mem_toList_iff.1 h]
theorem zby {c:Call} {b:Builtin} {ds:List (Option Nat)} {call:zbc} {ls:List AV} {e:Env} {h:H} {n:Nat} {k:K} {rr:RR} (hop:o.op=.call c) (hcb:c.callee=.builtin b) (hr:zbb ds tb o.op call ls e h n k=rr) (hne:rr≠.fail):
  za2 ds tb b c.argTypes c.args.toList call ls e h n k=rr:=by
 rw [hop] at hr
 simp only [zbb] at hr
 cases hs:zfc ds c.args.toList with
 | none=>rw [hs] at hr; exact absurd hr.symm hne
 | some ss=>rw [hs] at hr; simp only at hr; rw [hcb] at hr; exact hr
theorem zxu {c:Call} (hT:TbOk P tb) (hop:o.op=.call c) (hcb:c.callee=.builtin .min∨c.callee=.builtin .max):OpOk P tb o:=by
 intro ds ls e a ρ h n w call k rr Q hc hf hi hr hne
 have key:∀ (b:Builtin),c.callee=.builtin b→(b=.min∨b=.max)→o.wp P a w (zel ρ h n w k rr a o.dst) Q:=by
  intro b hb hmm
  have hr':=zby hop hb hr hne
  unfold za2 at hr'
  cases hl:c.args.toList with
  | nil=>rw [hl] at hr'; rcases hmm with rfl | rfl<;>exact absurd hr'.symm hne
  | cons x l=>
   cases l with
   | nil=>rw [hl] at hr'; rcases hmm with rfl | rfl<;>exact absurd hr'.symm hne
   | cons y l=>
    cases l with
    | cons _ _=>rw [hl] at hr'; rcases hmm with rfl | rfl<;>exact absurd hr'.symm hne
    | nil=>
     rw [hl] at hr'
     have hx:=zb5 hop hb (x:=x) (by rw [hl]; simp)
     have hy:=zb5 hop hb (x:=y) (by rw [hl]; simp)
     rcases hmm with rfl | rfl
     ·simp only at hr'
      cases hu:und tb (c.argTypes.getD 0 0) with
      | int kd=>
       rw [hu] at hr'
       obtain ⟨s,u,h1,h2,hk⟩:=zb9 hr' hne
       exact zck hop hb (fun consts=>by rw [zn2 hl]; rfl) (z0b (ats:=c.argTypes) (tt:=o.type) hi hne (hf x hx s h1) (hf y hy u h2) (by rw [← zk9]; exact hk))
      | _=>rw [hu] at hr'; exact absurd hr'.symm hne
     ·simp only at hr'
      cases hu:und tb (c.argTypes.getD 0 0) with
      | int kd=>
       rw [hu] at hr'
       obtain ⟨s,u,h1,h2,hk⟩:=zb9 hr' hne
       exact zck hop hb (fun consts=>by rw [zn2 hl]; rfl) (z0a (ats:=c.argTypes) (tt:=o.type) hi hne (hf x hx s h1) (hf y hy u h2) (by rw [← zk9]; exact hk))
      | _=>rw [hu] at hr'; exact absurd hr'.symm hne
 rcases hcb with hb | hb
 ·exact key _ hb (.inl rfl)
 ·exact key _ hb (.inr rfl)
end
end
end Go.VE
namespace Go.VE
noncomputable section
open Go
section
variable {P:Program} {tb:Tb} {o:Oper}
theorem zo1 {c:Call} {b:Builtin} {ds:List (Option Nat)} {call:zbc} {ls:List AV} {e:Env} {h:H} {n:Nat} {k:K} {rr:RR} (hr:za2 ds tb b c.argTypes c.args.toList call ls e h n k=rr) (hne:rr≠.fail) (hb:b=.len∨b=.cap∨b=.clear):
  ∃ x,c.args.toList=[x]:=by
 unfold za2 at hr
 cases hl:c.args.toList with
 | nil=>rw [hl] at hr; rcases hb with rfl | rfl | rfl<;>exact absurd hr.symm hne
 | cons x l=>
  cases l with
  | nil=>exact ⟨x,rfl⟩
  | cons _ _=>rw [hl] at hr; rcases hb with rfl | rfl | rfl<;>exact absurd hr.symm hne
theorem zme {c:Call} {b:Builtin} {ds:List (Option Nat)} {call:zbc} {ls:List AV} {e:Env} {h:H} {n:Nat} {k:K} {rr:RR} (hr:za2 ds tb b c.argTypes c.args.toList call ls e h n k=rr) (hne:rr≠.fail) (hb:b=.append∨b=.copy):
  ∃ x y,c.args.toList=[x,y]:=by
 unfold za2 at hr
 cases hl:c.args.toList with
 | nil=>rw [hl] at hr; rcases hb with rfl | rfl<;>exact absurd hr.symm hne
 | cons x l=>
  cases l with
  | nil=>rw [hl] at hr; rcases hb with rfl | rfl<;>exact absurd hr.symm hne
  | cons y l=>
   cases l with
   | nil=>exact ⟨x,y,rfl⟩
   | cons _ _=>rw [hl] at hr; rcases hb with rfl | rfl<;>exact absurd hr.symm hne
theorem ok_len {c:Call} (hT:TbOk P tb) (hop:o.op=.call c) (hcb:c.callee=.builtin .len) (h0:0 < c.argTypes.size):OpOk P tb o:=by
 intro ds ls e a ρ h n w call k rr Q hc hf hi hr hne
 have hr':=zby hop hcb hr hne
 obtain ⟨x,hl⟩:=zo1 hr' hne (.inl rfl)
 rw [hl] at hr'
 simp only [za2] at hr'
 have hx:=zb5 hop hcb (x:=x) (by rw [hl]; simp)
 have ht:=argT h0 rfl
 have hs:∀ consts,builtin .len c.argTypes o.type consts (c.args.map a.eval)=(do pure (Next.value (← Builtin.len_ c.argTypes o.type #[a.eval x]))):=fun consts=>by rw [zr3 hl]; rfl
 cases hu:und tb (c.argTypes.getD 0 0) with
 | string=>
  rw [hu] at hr'
  obtain ⟨s,h1,hk⟩:=za7 hr' hne
  exact zck hop hcb hs (zw8 hi hne (hf x hx s h1) ht (hT.und hu (by simp)).1 hk)
 | slice et=>
  rw [hu] at hr'
  obtain ⟨s,h1,hk⟩:=za7 hr' hne
  exact zck hop hcb hs (zuy hi hne (hf x hx s h1) ht (hT.und hu (by simp)).1 hk)
 | map kt et=>
  rw [hu] at hr'
  obtain ⟨s,h1,hk⟩:=za7 hr' hne
  exact zck hop hcb hs (zw7 hi hne (hf x hx s h1) ht (hT.und hu (by simp)).1 hk)
 | array m et=>
  rw [hu] at hr'
  refine zck hop hcb hs (zqt hi hne (m:=m) ?_ hr')
  have ha:(#[a.eval x]:Array Value)[0]?=some (a.eval x):=rfl
  simp only [Builtin.len_,ht,ha,Sem.run_bind,zac (hT.und hu (by simp)).1,Result.andThen_ok,Sem.run_pure]
 | pointer at'=>
  rw [hu] at hr'
  simp only at hr'
  cases hu2:und tb at' with
  | array m et=>
   rw [hu2] at hr'
   refine zck hop hcb hs (zqt hi hne (m:=m) ?_ hr')
   have ha:(#[a.eval x]:Array Value)[0]?=some (a.eval x):=rfl
   simp only [Builtin.len_,ht,ha,Sem.run_bind,zac (hT.und hu (by simp)).1,zac (hT.und hu2 (by simp)).1,Result.andThen_ok,Sem.run_pure]
  | _=>rw [hu2] at hr'; exact absurd hr'.symm hne
 | _=>rw [hu] at hr'; exact absurd hr'.symm hne
theorem ok_cap {c:Call} (hT:TbOk P tb) (hop:o.op=.call c) (hcb:c.callee=.builtin .cap) (h0:0 < c.argTypes.size):OpOk P tb o:=by
 intro ds ls e a ρ h n w call k rr Q hc hf hi hr hne
 have hr':=zby hop hcb hr hne
 obtain ⟨x,hl⟩:=zo1 hr' hne (.inr (.inl rfl))
 rw [hl] at hr'
 simp only [za2] at hr'
 have hx:=zb5 hop hcb (x:=x) (by rw [hl]; simp)
 cases hu:und tb (c.argTypes.getD 0 0) with
 | slice et=>
  rw [hu] at hr'
  obtain ⟨s,h1,hk⟩:=za7 hr' hne
  exact zck hop hcb (fun consts=>by rw [zr3 hl]; rfl) (zz6 (tt:=o.type) hi hne (hf x hx s h1) (argT h0 rfl) (hT.und hu (by simp)).1 hk)
 | _=>rw [hu] at hr'; exact absurd hr'.symm hne
theorem zwa {c:Call} (hT:TbOk P tb) (hop:o.op=.call c) (hcb:c.callee=.builtin .clear) (h0:0 < c.argTypes.size):OpOk P tb o:=by
 intro ds ls e a ρ h n w call k rr Q hc hf hi hr hne
 have hr':=zby hop hcb hr hne
 obtain ⟨x,hl⟩:=zo1 hr' hne (.inr (.inr rfl))
 rw [hl] at hr'
 simp only [za2] at hr'
 have hx:=zb5 hop hcb (x:=x) (by rw [hl]; simp)
 cases hu:und tb (c.argTypes.getD 0 0) with
 | map kt et=>
  rw [hu] at hr'
  obtain ⟨s,h1,hk⟩:=za7 hr' hne
  exact zck hop hcb (fun consts=>by rw [zr3 hl]; rfl) (zuu (tt:=o.type) hi hne (hf x hx s h1) (argT h0 rfl) (hT.und hu (by simp)).1 hk)
 | slice et=>
  rw [hu] at hr'
  simp only at hr'
  cases hi':tb.types.get (et + 1) with
  | none=>rw [hi'] at hr'; exact absurd hr'.symm hne
  | some i=>
   cases hz:zb4 tb et with
   | none=>rw [hi',hz] at hr'; exact absurd hr'.symm hne
   | some z=>
    rw [hi',hz] at hr'
    simp only at hr'
    cases hc':okCs z && Nat.beq (lenC z) i.size with
    | false=>rw [hc'] at hr'; exact absurd hr'.symm hne
    | true=>
     rw [hc'] at hr'
     simp only [Bool.and_eq_true] at hc'
     obtain ⟨i',zv,z1,z2,z3,z4⟩:=zee hT hz hc'.1
     rw [hi'] at z1; cases z1
     obtain ⟨s,h1,hk⟩:=za7 hr' hne
     exact zck hop hcb (fun consts=>by rw [zr3 hl]; rfl) (zrt (tt:=o.type) hi hne (hf x hx s h1) (argT h0 rfl) (hT.und hu (by simp)).1 z2 z3 (z4 ρ) hc'.1 (zak hc'.2) hk)
 | _=>rw [hu] at hr'; exact absurd hr'.symm hne
theorem ztq {c:Call} (hT:TbOk P tb) (hop:o.op=.call c) (hcb:c.callee=.builtin .append) (h0:c.argTypes.size=2) (hni:∀ k,und tb (c.argTypes.getD 1 0)≠.int k)
  (hz:∀ et i zv,und tb (c.argTypes.getD 0 0)=.slice et→tb.types.get (et + 1)=some i→i.zero=some zv→zv.cells.size=i.size)
  (hB:∀ et i,und tb (c.argTypes.getD 0 0)=.slice et→tb.types.get (et + 1)=some i→und tb (c.argTypes.getD 1 0)=.string→i.size=1∧i.bytes=1):OpOk P tb o:=by
 intro ds ls e a ρ h n w call k rr Q hc hf hi hr hne
 have hr':=zby hop hcb hr hne
 obtain ⟨x,y,hl⟩:=zme hr' hne (.inl rfl)
 rw [hl] at hr'
 simp only [za2] at hr'
 have hx:=zb5 hop hcb (x:=x) (by rw [hl]; simp)
 have hy:=zb5 hop hcb (x:=y) (by rw [hl]; simp)
 have hat:c.argTypes=#[c.argTypes.getD 0 0,c.argTypes.getD 1 0]:=by
  apply Array.ext
  ·simp [h0]
  ·intro i h1 h2
   simp at h2
   rcases i with _ | _ | i
   ·simp [Array.getElem?_eq_getElem (show 0 < c.argTypes.size by omega)]
   ·simp [Array.getElem?_eq_getElem (show 1 < c.argTypes.size by omega)]
   ·omega
 cases hu:und tb (c.argTypes.getD 0 0) with
 | slice et=>
  rw [hu] at hr'
  simp only at hr'
  cases hg:tb.types.get (et + 1) with
  | none=>rw [hg] at hr'; exact absurd hr'.symm hne
  | some i=>
   cases hzl:zb4 tb et with
   | none=>rw [hg,hzl] at hr'; exact absurd hr'.symm hne
   | some z=>
    rw [hg,hzl] at hr'
    simp only at hr'
    have hzero:∃ zv,i.zero=some zv:=by
     unfold zb4 at hzl
     cases hza:zhr tb et with
     | none=>rw [hza] at hzl; cases hzl
     | some z'=>
      obtain ⟨i',zv,g1,_,g3,_⟩:=ze8 hT hza
      rw [hg] at g1; cases g1
      exact ⟨zv,g3⟩
    obtain ⟨zv,hzv⟩:=hzero
    have go:ok2 ds x y (zaq i.size i.bytes) call ls e h n k=rr→(P.underlying (c.argTypes.getD 1 0)=some .string∨∃ e',P.underlying (c.argTypes.getD 1 0)=some (.slice e'))→o.wp P a w (zel ρ h n w k rr a o.dst) Q:=fun h1 h2=>by
     obtain ⟨s,u,g1,g2,hk⟩:=zb9 h1 hne
     have hA:AppN P (c.argTypes.getD 0 0) (c.argTypes.getD 1 0) et i:=⟨(hT.und hu (by simp)).1,hT.info _ _ hg,h2⟩
     refine zck hop hcb (s:=Builtin.append_ #[c.argTypes.getD 0 0,c.argTypes.getD 1 0] o.type #[a.eval x,a.eval y]) (fun consts=>?_) (zrs hi hne hA hzv (hz et i zv hu hg hzv) (hf x hx s g1) (hf y hy u g2) hk)
     rw [zn2 hl,← hat]; rfl
    cases hu1:und tb (c.argTypes.getD 1 0) with
    | int kd=>exact absurd hu1 (hni kd)
    | string=>
     rw [hu1] at hr'
     simp only at hr'
     cases h8:isU8 tb et with
     | false=>rw [h8] at hr'; exact absurd hr'.symm hne
     | true=>
      rw [h8,cond_true] at hr'
      obtain ⟨s,u,g1,g2,hk⟩:=zb9 hr' hne
      have hA:AppN P (c.argTypes.getD 0 0) (c.argTypes.getD 1 0) et i:=⟨(hT.und hu (by simp)).1,hT.info _ _ hg,.inl (hT.und hu1 (by simp)).1⟩
      obtain ⟨b1,b2⟩:=hB et i hu hg hu1
      refine zck hop hcb (s:=Builtin.append_ #[c.argTypes.getD 0 0,c.argTypes.getD 1 0] o.type #[a.eval x,a.eval y]) (fun consts=>?_) (zw3 hi hne hA hzv (hz et i zv hu hg hzv) b1 b2 (hf x hx s g1) (hf y hy u g2) hk)
      rw [zn2 hl,← hat]; rfl
    | slice e'=>rw [hu1] at hr'; exact go hr' (.inr ⟨e',(hT.und hu1 (by simp)).1⟩)
    | _=>rw [hu1] at hr'; exact absurd hr'.symm hne
 | _=>rw [hu] at hr'; exact absurd hr'.symm hne
theorem ok_usd {c:Call} (hT:TbOk P tb) (hop:o.op=.call c) (hcb:c.callee=.builtin .unsafeSliceData):OpOk P tb o:=by
 intro ds ls e a ρ h n w call k rr Q hc hf hi hr hne
 have hr':=zby hop hcb hr hne
 obtain ⟨x,hl⟩:∃ x,c.args.toList=[x]:=by
  unfold za2 at hr'
  cases hl:c.args.toList with
  | nil=>rw [hl] at hr'; exact absurd hr'.symm hne
  | cons x l=>
   cases l with
   | nil=>exact ⟨x,rfl⟩
   | cons _ _=>rw [hl] at hr'; exact absurd hr'.symm hne
 rw [hl] at hr'
 simp only [za2] at hr'
 have hx:=zb5 hop hcb (x:=x) (by rw [hl]; simp)
 cases hu:und tb (c.argTypes.getD 0 0) with
 | slice et=>
  rw [hu] at hr'
  obtain ⟨s,h1,hk⟩:=za7 hr' hne
  exact zck hop hcb (fun consts=>by rw [zr3 hl]; rfl) (z0n (tt:=o.type) (ats:=c.argTypes) hi hne (hf x hx s h1) hk)
 | _=>rw [hu] at hr'; exact absurd hr'.symm hne
theorem ok_ust {c:Call} (hT:TbOk P tb) (hop:o.op=.call c) (hcb:c.callee=.builtin .unsafeString) (h0:c.argTypes.size=2) (h1:∀ e,und tb (c.argTypes.getD 0 0)=.pointer e→∃ i,tb.types.get (e + 1)=some i∧i.size=1):OpOk P tb o:=by
 intro ds ls e a ρ h n w call k rr Q hc hf hi hr hne
 have hr':=zby hop hcb hr hne
 obtain ⟨x,y,hl⟩:∃ x y,c.args.toList=[x,y]:=by
  unfold za2 at hr'
  cases hl:c.args.toList with
  | nil=>rw [hl] at hr'; exact absurd hr'.symm hne
  | cons x l=>
   cases l with
   | nil=>rw [hl] at hr'; exact absurd hr'.symm hne
   | cons y l=>
    cases l with
    | nil=>exact ⟨x,y,rfl⟩
    | cons _ _=>rw [hl] at hr'; exact absurd hr'.symm hne
 rw [hl] at hr'
 simp only [za2] at hr'
 have hx:=zb5 hop hcb (x:=x) (by rw [hl]; simp)
 have hy:=zb5 hop hcb (x:=y) (by rw [hl]; simp)
 have hat:c.argTypes=#[c.argTypes.getD 0 0,c.argTypes.getD 1 0]:=by
  apply Array.ext
  ·simp [h0]
  ·intro i h1 h2
   simp at h2
   rcases i with _ | _ | i
   ·simp [Array.getElem?_eq_getElem (show 0 < c.argTypes.size by omega)]
   ·simp [Array.getElem?_eq_getElem (show 1 < c.argTypes.size by omega)]
   ·omega
 cases hu:und tb (c.argTypes.getD 0 0) with
 | pointer et=>
  rw [hu] at hr'
  simp only at hr'
  cases h8:isU8 tb et with
  | false=>rw [h8] at hr'; exact absurd hr'.symm hne
  | true=>
   rw [h8,cond_true] at hr'
   obtain ⟨s,u,g1,g2,hk⟩:=zb9 hr' hne
   obtain ⟨i,k1,k2⟩:=h1 et hu
   have hcell:P.cellsOf et=1:=by unfold Program.cellsOf; rw [hT.info _ _ k1]; exact k2
   refine zck hop hcb (s:=Builtin.unsafeString_ #[c.argTypes.getD 0 0,c.argTypes.getD 1 0] o.type #[a.eval x,a.eval y]) (fun consts=>?_) (z0o hi hne (hT.und hu (by simp)).1 hcell (hf x hx s g1) (hf y hy u g2) hk)
   rw [zn2 hl,← hat]; rfl
 | _=>rw [hu] at hr'; exact absurd hr'.symm hne
theorem zze {c:Call} (hT:TbOk P tb) (hop:o.op=.call c) (hcb:c.callee=.builtin .copy) (h0:0 < c.argTypes.size) (hsz:∀ et,und tb (c.argTypes.getD 0 0)=.slice et→und tb et≠.invalid∧size tb et=1):OpOk P tb o:=by
 intro ds ls e a ρ h n w call k rr Q hc hf hi hr hne
 have hr':=zby hop hcb hr hne
 obtain ⟨x,y,hl⟩:=zme hr' hne (.inr rfl)
 rw [hl] at hr'
 simp only [za2] at hr'
 have hx:=zb5 hop hcb (x:=x) (by rw [hl]; simp)
 have hy:=zb5 hop hcb (x:=y) (by rw [hl]; simp)
 cases hu:und tb (c.argTypes.getD 0 0) with
 | slice et=>
  rw [hu] at hr'
  obtain ⟨s,u,g1,g2,hk⟩:=zb9 hr' hne
  obtain ⟨i1,i2⟩:=hsz et hu
  obtain ⟨_,i,k1,k2⟩:=hT.und rfl i1
  rw [zc8 k1] at i2 hk
  exact zck hop hcb (fun consts=>by rw [zn2 hl]; rfl) (zw4 (tt:=o.type) hi hne (argT h0 rfl) (hT.und hu (by simp)).1 k2 (hf x hx s g1) (hf y hy u g2) (fun _ _ _=>i2) hk)
 | _=>rw [hu] at hr'; exact absurd hr'.symm hne
end
end
end Go.VE
namespace Go.VE
noncomputable section
open Go
section
variable {P:Program} {tb:Tb} {o:Oper}
theorem zne {t:TypeId} {x y:Operand} (hT:TbOk P tb) (hop:o.op=.makeSlice t x y) (h8:∀ et i,und tb t=.slice et→tb.types.get (et + 1)=some i→isU8 tb et=true→i.zero=some (.int .u8 0)∧i.size=1∧i.bytes=1)
  (ho:∀ et i z,und tb t=.slice et→tb.types.get (et + 1)=some i→zb4 tb et=some z→okCs z=true∧lenC z=i.size):OpOk P tb o:=by
 intro ds ls e a ρ h n w call k rr Q hc hf hi hr hne
 rw [hop] at hr
 simp only [zbb] at hr
 have hx:x ∈ o.op.operands∧y ∈ o.op.operands:=by rw [hop]; simp [Op.operands]
 cases hu:und tb t with
 | slice et=>
  rw [hu] at hr
  simp only at hr
  cases hg:tb.types.get (et + 1) with
  | none=>rw [hg] at hr; exact absurd hr.symm hne
  | some i=>
   cases hz:zb4 tb et with
   | none=>rw [hg,hz] at hr; exact absurd hr.symm hne
   | some z=>
    rw [hg,hz] at hr
    simp only at hr
    cases h1:isU8 tb et with
    | true=>
     rw [h1,cond_true] at hr
     obtain ⟨s,u,g1,g2,hk⟩:=zb9 hr hne
     obtain ⟨z1,z2,z3⟩:=h8 et i hu hg h1
     exact za5 (by simp only [execOp,hop]) (zxa hi hne (hf x hx.1 s g1) (hf y hx.2 u g2) (hT.und hu (by simp)).1 (hT.info _ _ hg) z1 z2 z3 hk)
    | false=>
     rw [h1,cond_false] at hr
     obtain ⟨s,u,g1,g2,hk⟩:=zb9 hr hne
     obtain ⟨o1,o2⟩:=ho et i z hu hg hz
     obtain ⟨i',zv,z1,z2,z3,z4⟩:=zee hT hz o1
     rw [hg] at z1; cases z1
     exact za5 (by simp only [execOp,hop]) (zxc (ed:=.invalid) hi hne (hf x hx.1 s g1) (hf y hx.2 u g2) (hT.und hu (by simp)).1 z2 z3 (z4 ρ) o1 o2 hk)
 | _=>rw [hu] at hr; exact absurd hr.symm hne
def FitO (ρ:Mp) (ls:List AV) (e:Env) (s:Option Sx) (v:Option Value):Prop:=match s,v with | none,none=>True | some s,some v=>rel ρ (s ls e) v | _,_=>False
theorem zl2 {ρ:Mp} {ds:List (Option Nat)} {ls:List AV} {e:Env} {a:Act} {x:Option Operand} {s:Option Sx} (h:lowO ds x=some s) (hf:∀ y,x=some y→Fits ρ ds ls e a y):FitO ρ ls e s (x.map a.eval):=by
 cases x with
 | none=>cases h; exact trivial
 | some y=>
  simp only [lowO] at h
  cases h1:lowS ds y with
  | none=>rw [h1] at h; cases h
  | some u=>rw [h1] at h; cases h; exact hf y rfl u h1
theorem zwd {t:TypeId} {x:Operand} {lo hi' mx:Option Operand} (hT:TbOk P tb) (hop:o.op=.slice t x lo hi' mx) (hm:mx.isSome=true→hi'.isSome=true)
  (hs:∀ et,und tb t=.slice et→und tb et≠.invalid) (ha:∀ m et,und tb t=.array m et→und tb et≠.invalid) (hp:∀ p m et,und tb t=.pointer p→und tb p=.array m et→und tb et≠.invalid):OpOk P tb o:=by
 intro ds ls e a ρ h n w call k rr Q hc hf hi hr hne
 rw [hop] at hr
 simp only [zbb] at hr
 have hmem:∀ y,(y=x∨lo=some y∨hi'=some y∨mx=some y)→y ∈ o.op.operands:=by
  intro y hy
  rw [hop]
  simp only [Op.operands]
  rcases hy with rfl | rfl | rfl | rfl<;>simp
 cases h1:lowS ds x with
 | none=>rw [h1] at hr; revert hr; cases und tb t<;>intro hr<;>exact absurd hr.symm hne
 | some sx=>
  cases h2:lowO ds lo with
  | none=>rw [h1,h2] at hr; revert hr; cases und tb t<;>intro hr<;>exact absurd hr.symm hne
  | some slo=>
   cases h3:lowO ds hi' with
   | none=>rw [h1,h2,h3] at hr; revert hr; cases und tb t<;>intro hr<;>exact absurd hr.symm hne
   | some shi=>
    cases h4:lowO ds mx with
    | none=>rw [h1,h2,h3,h4] at hr; revert hr; cases und tb t<;>intro hr<;>exact absurd hr.symm hne
    | some smx=>
     rw [h1,h2,h3,h4] at hr
     have fx:=hf x (hmem x (.inl rfl)) sx h1
     have flo:FitO ρ ls e slo (lo.map a.eval):=zl2 h2 fun y hy=>hf y (hmem y (.inr (.inl hy)))
     have fhi:FitO ρ ls e shi (hi'.map a.eval):=zl2 h3 fun y hy=>hf y (hmem y (.inr (.inr (.inl hy))))
     have fmx:FitO ρ ls e smx (mx.map a.eval):=zl2 h4 fun y hy=>hf y (hmem y (.inr (.inr (.inr hy))))
     have hm':(mx.map a.eval).isSome=true→(hi'.map a.eval).isSome=true:=by simpa using hm
     cases hu:und tb t with
     | string=>
      rw [hu] at hr
      cases smx with
      | some _=>exact absurd hr.symm hne
      | none=>
       have hmx:mx.map a.eval=none:=by
        cases hh:mx.map a.eval with
        | none=>rfl
        | some v=>rw [hh] at fmx; exact fmx.elim
       refine za5 (s:=Instr.sliceAt t (a.eval x) (lo.map a.eval) (hi'.map a.eval) (mx.map a.eval)) (by simp only [execOp,hop]) ?_
       rw [hmx]
       have hr2:(match sx ls e with | .str m y=>cutS m y (bnd slo 0 ls e) (bnd shi m ls e) h n k | _=>.fail)=rr:=hr
       clear hr
       generalize sx ls e=v at fx hr2
       refine zrw hi hne fx (hT.und hu (by simp)).1 flo fhi ?_
       cases v<;>exact hr2
     | slice et=>
      rw [hu] at hr
      obtain ⟨_,i,g1,g2⟩:=hT.und rfl (hs et hu)
      simp only at hr
      rw [zc8 g1] at hr
      refine za5 (s:=Instr.sliceAt t (a.eval x) (lo.map a.eval) (hi'.map a.eval) (mx.map a.eval)) (by simp only [execOp,hop]) ?_
      simp only [zap] at hr
      generalize sx ls e=v at fx hr
      refine zu5 hi hne fx (hT.und hu (by simp)).1 g2 flo fhi fmx hm' ?_
      cases v<;>first | exact hr | (cases smx<;>exact hr)
     | array m et=>
      rw [hu] at hr
      obtain ⟨_,i,g1,g2⟩:=hT.und rfl (ha m et hu)
      simp only at hr
      rw [zc8 g1] at hr
      exact za5 (s:=Instr.sliceAt t (a.eval x) (lo.map a.eval) (hi'.map a.eval) (mx.map a.eval)) (by simp only [execOp,hop]) (zlc hi hne fx (.inl (hT.und hu (by simp)).1) g2 flo fhi fmx hm' hr)
     | pointer p=>
      rw [hu] at hr
      simp only at hr
      cases hu2:und tb p with
      | array m et=>
       rw [hu2] at hr
       obtain ⟨_,i,g1,g2⟩:=hT.und rfl (hp p m et hu hu2)
       simp only at hr
       rw [zc8 g1] at hr
       exact za5 (s:=Instr.sliceAt t (a.eval x) (lo.map a.eval) (hi'.map a.eval) (mx.map a.eval)) (by simp only [execOp,hop]) (zlc hi hne fx (.inr ⟨p,(hT.und hu (by simp)).1,(hT.und hu2 (by simp)).1⟩) g2 flo fhi fmx hm' hr)
      | _=>rw [hu2] at hr; exact absurd hr.symm hne
     | _=>rw [hu] at hr; exact absurd hr.symm hne
theorem zoz {f:Nat} {first caps:Array Operand} (hop:o.op=.makeFunc (.func f) first caps):OpOk P tb o:=by
 intro ds ls e a ρ h n w call k rr Q hc hf hi hr hne
 rw [hop] at hr
 simp only [zbb] at hr
 cases hfe:first.isEmpty with
 | false=>rw [hfe] at hr; exact absurd hr.symm hne
 | true=>
  rw [hfe,cond_true] at hr
  have hf0:first=#[]:=Array.isEmpty_iff.1 hfe
  subst hf0
  cases hs:zfc ds caps.toList with
  | none=>rw [hs] at hr; exact absurd hr.symm hne
  | some ss=>
   rw [hs] at hr
   have hk:k (.func f (evC ss ls e)) h n=rr:=hr
   have hmem:∀ x,x ∈ caps.toList→x ∈ o.op.operands:=by
    intro x hx; rw [hop]; simp only [Op.operands]; simp [Array.mem_toList_iff.1 hx]
   have hrel:relL ρ (evC ss ls e) (caps.toList.map a.eval):=by
    have:∀ {xs:List Operand} {ss:List Sx},zfc ds xs=some ss→(∀ x ∈ xs,Fits ρ ds ls e a x)→relL ρ (evC ss ls e) (xs.map a.eval):=by
     intro xs
     induction xs with
     | nil=>intro ss h _; cases h; simp only [evC,relL,List.map_nil]
     | cons x xs ih=>
      intro ss h hf
      simp only [zfc] at h
      cases h1:lowS ds x with
      | none=>rw [h1] at h; cases h
      | some s=>
       cases h2:zfc ds xs with
       | none=>rw [h1,h2] at h; cases h
       | some l=>
        rw [h1,h2] at h; cases h
        simp only [evC,relL,List.map_cons]
        exact ⟨_,_,rfl,hf x List.mem_cons_self s h1,ih h2 fun y hy=>hf y (List.mem_cons_of_mem _ hy)⟩
    exact this hs fun x hx=>hf x (hmem x hx)
   refine za5 (s:=Instr.makeFunc (.func f) (#[].map a.eval) (caps.map a.eval)) (by simp only [execOp,hop]) (.same hi hk rfl ?_)
   simp only [rel]
   exact ⟨caps.map a.eval,by simp,by simpa using hrel⟩
end
end
end Go.VE
