/- The evaluator, part 11: definitions and their laws, over any program. No condition. -/
import Derived.OrdersIn
import Derived.LoopNIn
import Derived.RangeFuncRecord
import Derived.Test.YtjpelmgihpmohaaGreatDoorVE10
set_option linter.all false
namespace Go.VE
noncomputable section
open Go
def FR (r:Option Nat):Fence:={ fn:=fun _=>True,depth:=none,alive:=false,round:=r }
section
variable {P:Program} {r:Option Nat} {m:Nat}
theorem callsIn_FR {f:FuncId} {args:Array Value} {w:World} {R:Ending→World→Prop}:CallsIn (FR r) m P f args w R ↔ Calls P f args w R:=
 (show CallsIn (FR r) m P f args w R ↔ CallsIn Fence.wide m P f args w R from Iff.rfl).trans callsIn_wide
theorem zue {row:String} {args:Array Value} {w:World} {R:Value→World→Prop} (h:Rows P row args w R):RowsIn (FR r) m P row args w R:=by
 intro c cs _
 obtain ⟨v,w',h1,h2⟩:=h c cs
 exact ⟨v,w',h1,(show StepsIn (Machine.fenced P Fence.wide) P _ _ from stepsIn_wide.2 h2)⟩
theorem Oper.wpIn_of {o:Oper} {a:Act} {w:World} {K:Act→World→Prop} {Q:Exit→Act→World→Prop} (hd:∀ c,o.op≠.defer c) (h:o.wp P a w K Q):o.wpIn (FR r) m P a w K Q:=by
 refine ⟨fun _ _=>trivial,?_⟩
 have e:(FR r).round=r:=rfl
 rw [e,Oper.semAt_eq r a.eval o hd]
 unfold Oper.wp at h
 generalize (execOp a.eval o).run P w=x at h
 cases x with
 | ok y w'=>
  cases y with
  | enter f args=>exact ⟨(fun hh=>by cases hh),callsIn_FR.2 h⟩
  | row row args=>exact ⟨(fun hh=>by cases hh),zue h⟩
  | round l f t x y=>exact (show False from h).elim
  | _=>exact h
 | halt y w'=>cases y<;>exact h
end
theorem zc4 {ds:List (Option Nat)} {tb:Tb} {o:Op} {call:zbc} {ls:List AV} {e:Env} {h:H} {n:Nat} {k:K} {rr:RR} (hr:zbb ds tb o call ls e h n k=rr) (hne:rr≠.fail):∀ c,o≠.defer c:=
 fun c e=>by rw [e] at hr; exact hne hr.symm
def noGo (Q:Exit→Act→World→Prop):Exit→Act→World→Prop
 | .goto _,_,_=>False
 | e,a,w=>Q e a w
theorem zpc {P:Program} {b:Frame} {a:Act} {k:List Item} {cs:List Frame} {w:World} {c:Code}:step P (lone (b.atR a (.code (.scope c) :: k)) cs w)=.next (lone (b.atR a (.code c :: .inScope c :: k)) cs w):=
 step_lone_go (by simp [Go.stepG,Go.stepG.exec,Frame.atR])
theorem zmc {P:Program} {b:Frame} {a:Act} {k:List Item} {cs:List Frame} {w:World} {c:Code}:step P (lone (b.atR a (.inScope c :: k)) cs w)=.next (lone (b.atR a k) cs w):=
 step_lone_go (by simp [Go.stepG,Go.stepG.exec,Frame.atR])
theorem zgv {F:Fence} {n:Nat} {P:Program} {Q:Exit→Act→World→Prop} {a:Act} {w:World} {c:Code} (h:c.wpIn F n P (noGo Q) a w):(Code.scope c).wpIn F n P Q a w:=by
 intro b k cs hro hb hr
 obtain ⟨e,a₁,w₁,hq,harr⟩:=h b (.inScope c :: k) cs hro hb hr
 have s0:StepsIn (Machine.fenced P F) P (lone (b.atR a (.code (.scope c) :: k)) cs w) (lone (b.atR a (.code c :: .inScope c :: k)) cs w):=.one (fenced_calm hb hr rfl) zpc
 have hx:∀ id,exitTo id (Item.inScope c :: k)=exitTo id k:=fun id=>by simp [exitTo]
 cases e with
 | normal=>exact ⟨.normal,a₁,w₁,hq,StepsIn.trans s0 (StepsIn.trans harr (.one (fenced_calm hb hr rfl) zmc))⟩
 | exit id=>exact ⟨.exit id,a₁,w₁,hq,.of_steps s0 ⟨fun k' hk=>harr.1 k' (by rw [hx]; exact hk),fun h1 h2=>harr.2 h1 (by rw [hx]; exact h2)⟩⟩
 | goto l=>exact hq.elim
 | ret=>exact ⟨.ret,a₁,w₁,hq,.of_steps s0 harr⟩
 | panic ch=>exact ⟨.panic ch,a₁,w₁,hq,.of_steps s0 harr⟩
 | outgrown=>exact ⟨.outgrown,a₁,w₁,hq,.of_steps s0 harr⟩
end
end Go.VE
namespace Go.VE
noncomputable section
open Go
theorem FitE.put {ρ σ:Mp} (h:ρ.le σ) {nt:Nat} (hnt:nt≤255) {g:List Nat} {e:Env} {a:Act} {dst:Option Nat} {v:AV} {rv:Value} (hf:FitE nt g ρ e a) (hd:zd8 nt dst=true) (hv:rel σ v rv):
  FitE nt g σ (putE e (zcc g dst) v) (a.put dst rv):=by
 have hlt:∀ d,dst=some d→d < nt:=fun d hd'=>by subst hd'; simp only [zd8,Nat.blt_eq] at hd; exact hd
 refine ⟨fun t ht=>?_,by rw [zqj]; exact hf.size,fun i hi=>h.at_ _ _ (hf.st i hi)⟩
 rw [zl7 (fun d hd'=>Nat.lt_of_lt_of_le (hlt d hd') hf.size)]
 cases dst with
 | none=>
  rw [if_neg (by simp)]
  exact zba h _ _ (hf.slot t ht)
 | some d=>
  have hd1:=hlt d rfl
  simp only [zcc]
  by_cases e1:d=t
  ·subst e1
   rw [ht,if_pos rfl,cond_true]
   unfold putE
   have:Nat.beq (d + 1) 0=false:=rfl
   rw [this,zbe,zji (by omega),if_pos rfl]
   exact hv
  ·rw [if_neg (fun h=>e1 (Option.some.inj h))]
   have key:eAt (t + 1) (putE e (bif memN d g then d + 1 else 0) v)=eAt (t + 1) e:=by
    cases memN d g
    ·rfl
    ·rw [cond_true]; unfold putE
     have:Nat.beq (d + 1) 0=false:=rfl
     rw [this,zbe,zji (by omega),if_neg (by omega)]
   rw [key]
   exact zba h _ _ (hf.slot t ht)
def DsOf (ops:Array Oper) (k:Nat) (ds:List (Option Nat)):Prop:=ds.length=k∧∀ j,j < k→ds[k - 1 - j]?=(ops[j]?).map (·.dst)
theorem DsOf.nil (ops:Array Oper):DsOf ops 0 []:=⟨rfl,fun j hj=>absurd hj (by omega)⟩
theorem DsOf.cons {ops:Array Oper} {k:Nat} {ds:List (Option Nat)} {o:Oper} (h:DsOf ops k ds) (ho:ops[k]?=some o):DsOf ops (k + 1) (o.dst :: ds):=by
 refine ⟨by simp [h.1],fun j hj=>?_⟩
 by_cases e:j=k
 ·subst e
  rw [show j + 1 - 1 - j=0 by omega,ho]; rfl
 ·rw [show k + 1 - 1 - j=(k - 1 - j) + 1 by omega,List.getElem?_cons_succ]
  exact h.2 j (by omega)
def isB (b:Bool):Value→Bool
 | .bool c=>c == b
 | _=>false
theorem zo9 {ρ:Mp} {v:AV} {rv:Value} (h:rel ρ v rv) (b:Bool):ze7 b v=isB b rv:=by
 cases v<;>simp only [rel] at h
 case bool c=>subst h; cases b<;>cases c<;>rfl
 case undef=>subst h; rfl
 case int=>obtain ⟨_,_,rfl,_⟩:=h; rfl
 case ptr=>obtain ⟨_,_,_,rfl⟩:=h; rfl
 case sl=>obtain ⟨_,_,_,_,_,rfl,_⟩:=h; rfl
 case str=>obtain ⟨_,rfl,_⟩:=h; rfl
 case iface=>obtain ⟨_,rfl,_⟩:=h; rfl
 case map=>obtain ⟨_,_,rfl⟩:=h; rfl
 case func=>obtain ⟨_,rfl,_⟩:=h; rfl
 case agg=>obtain ⟨_,rfl,_⟩:=h; rfl
 case tup=>obtain ⟨_,rfl,_⟩:=h; rfl
 case yld=>obtain ⟨_,_,rfl⟩:=h; rfl
 case ukn=>obtain ⟨_,_,rfl,_⟩:=h; rfl
 all_goals (subst h; rfl)
theorem zqv {ρ:Mp} {ops:Array Oper} {k:Nat} {ds:List (Option Nat)} {ls:List AV} {a:Act} {o:Oper} {gd:Option (Nat × Bool)} (hds:DsOf ops k ds) (hl:∀ j b d,o.guard=some (j,b)→j < k→zc0 d ds 0=some (k - 1 - j)→rel ρ (nthD (k - 1 - j) ls) (a.tmps.getD d undef)) (hg:zc3 ds k o.guard=some gd):
  Region.wanted o (yielded ops a.tmps)=za4 ls gd:=by
 unfold Region.wanted
 cases hog:o.guard with
 | none=>rw [hog] at hg; cases hg; rfl
 | some jb=>
  obtain ⟨j,b⟩:=jb
  rw [hog] at hg
  simp only [zc3] at hg
  cases hj:Nat.blt j k with
  | false=>rw [hj] at hg; cases hg
  | true=>
   rw [hj,cond_true,zc5] at hg
   rw [Nat.blt_eq] at hj
   rw [hds.2 j hj] at hg
   cases hoj:ops[j]? with
   | none=>rw [hoj] at hg; cases hg
   | some oj=>
    rw [hoj,Option.map_some] at hg
    cases hdj:oj.dst with
    | none=>rw [hdj] at hg; cases hg
    | some d=>
     rw [hdj] at hg
     simp only at hg
     cases hp:zc0 d ds 0 with
     | none=>rw [hp] at hg; cases hg
     | some p=>
      rw [hp] at hg
      simp only at hg
      cases hb:Nat.beq p (k - 1 - j) with
      | false=>rw [hb] at hg; cases hg
      | true=>
       rw [hb] at hg; cases hg
       have hb':=Nat.eq_of_beq_eq_true hb
       subst hb'
       have hr:=hl j b d hog hj hp
       show (yielded ops a.tmps j == some b)=ze7 b (nthD (k - 1 - j) ls)
       rw [zo9 hr]
       unfold yielded
       rw [hoj]
       simp only [Option.bind_some,hdj]
       cases ht:a.tmps[d]? with
       | none=>
        have:a.tmps.getD d undef=undef:=by rw [Array.getD_eq_getD_getElem?,ht]; rfl
        rw [this]; rfl
       | some x=>
        have:a.tmps.getD d undef=x:=by rw [Array.getD_eq_getD_getElem?,ht]; rfl
        rw [this]
        cases x<;>simp [isB]
theorem zmf {ρ:Mp} {ops:Array Oper} {k:Nat} {ds:List (Option Nat)} {ls:List AV} {a:Act} {o:Oper} {gd:Option (Nat × Bool)} (hds:DsOf ops k ds) (hl:FitL ρ ds ls a) (hg:zc3 ds k o.guard=some gd):
  Region.wanted o (yielded ops a.tmps)=za4 ls gd:=zqv hds (fun _ _ d _ _ hp=>hl d _ hp) hg
def PostX (nt:Nat) (g:List Nat) (ρ:Mp) (h:H) (n:Nat) (w:World) (df:List Deferred) (rr:RR) (ex:Exit) (a':Act) (w':World):Prop:=
 ∃ e' h' n' σ,Goes ρ h n w σ h' n' w'∧FitE nt g σ e' a'∧a'.defers=df∧
  ((ex=.normal∧rr=.nrm e' h' n')∨(∃ id,ex=.exit id∧rr=.ext id e' h' n')∨(ex=.ret∧rr=.ret e' h' n'))
theorem zpa (call:zbc) (o:LOper) (l:List LOper) (ls:List AV) (e:Env) (h:H) (n:Nat):
  zcy call (o :: l) ls e h n=br (za4 ls o.guard) (o.op call ls e h n fun v h n=>zcy call l (v :: ls) (putE e o.dst v) h n) (zcy call l (.undef :: ls) (putE e o.dst .undef) h n):=rfl
theorem zf3 (a:Act) (d:Option Tmp) (v:Value):(a.put d v).defers=a.defers:=by cases d<;>rfl
theorem zd4 (ρ:Mp):rel ρ .undef undef:=by simp only [rel]; rfl
section
variable {P:Program} {tb:Tb} {g:List Nat} {nt:Nat} {call:zbc} {ops:Array Oper} {ρ0:Mp} {h0:H} {n0:Nat} {w0:World} {rr:RR} {df:List Deferred} {r:Option Nat} {m:Nat}
theorem zo3 (hc:zem P call) (hnt:nt≤255) (hops:∀ o,o ∈ ops.toList→OpOk P tb o) (hne:rr≠.fail):
  ∀ (l:List Oper) (k:Nat) (ds:List (Option Nat)) (ls:List AV) (e:Env) (ρ:Mp) (h:H) (n:Nat) (a:Act) (w:World) (acc:List Nat),
   (∀ j,l[j]?=ops[k + j]?)→DsOf ops k ds→Sub (zeb ds l acc) g→FitL ρ ds ls a→FitE nt g ρ e a→Goes ρ0 h0 n0 w0 ρ h n w→a.defers=df→
   zcy call (zp5 nt g tb ds k l) ls e h n=rr→wpOpsIn (FR r) m P ops (PostX nt g ρ0 h0 n0 w0 df rr) (List.range' k l.length) a w
 | [],k,ds,ls,e,ρ,h,n,a,w,acc,_,_,_,_,hE,hG,hd,hr=>⟨e,h,n,ρ,hG,hE,hd,.inl ⟨rfl,hr.symm⟩⟩
 | o :: l,k,ds,ls,e,ρ,h,n,a,w,acc,hl,hds,hs,hL,hE,hG,hd,hr=>by
  have ho:ops[k]?=some o:=by simpa using (hl 0).symm
  have hmem:o ∈ ops.toList:=by
   rw [← Array.getElem?_toList] at ho
   exact List.mem_of_getElem? ho
  have hl':∀ j,l[j]?=ops[k + 1 + j]?:=fun j=>by have:=hl (j + 1); simpa [Nat.add_assoc,Nat.add_comm 1 j] using this
  have hkept:∀ x,x ∈ o.op.operands→Kept g ds x:=fun x hx=>ze4 (l:=acc) ((zdk _ l _).trans hs) x (by simpa using hx)
  simp only [List.length_cons,List.range'_succ,wpOpsIn,ho]
  change zcy call (lowOper nt g tb ds k o :: zp5 nt g tb (o.dst :: ds) (k + 1) l) ls e h n=rr at hr
  rw [zpa] at hr
  unfold lowOper at hr
  cases hg:zc3 ds k o.guard with
  | none=>rw [hg] at hr; exact absurd hr.symm hne
  | some gd=>
   rw [hg] at hr
   cases hdst:zd8 nt o.dst with
   | false=>rw [hdst] at hr; exact absurd hr.symm hne
   | true=>
    rw [hdst] at hr
    simp only [cond_true] at hr
    rw [zmf hds hL hg]
    cases hw:za4 ls gd with
    | true=>
     rw [hw,zb2] at hr
     rw [if_pos rfl]
     refine Oper.wpIn_mono (fun a' w' ha=>?_) (Oper.wpIn_of (zc4 hr hne) (hops o hmem ds ls e a ρ h n w call _ rr _ hc (fun x hx=>zgk hL hE (hkept x hx)) hG.inv hr hne))
     obtain ⟨rv,rfl,v,h',n',σ,hk,hG',hrel⟩:=ha
     refine zo3 hc hnt hops hne l (k + 1) (o.dst :: ds) (v :: ls) _ σ h' n' _ w' (zj0 ds o.op.operands.toList acc) hl' (hds.cons ho) hs ?_ (hE.put hG'.le hnt hdst hrel) (hG.trans hG') (by rw [zf3,hd]) hk
     exact hL.put hG'.le (fun d hd'=>by have:=hE.size; rw [hd'] at hdst; simp only [zd8,Nat.blt_eq] at hdst; omega) hrel
    | false=>
     rw [hw,zbe] at hr
     rw [if_neg (by simp)]
     refine ⟨fun _ _=>trivial,?_⟩
     refine zo3 hc hnt hops hne l (k + 1) (o.dst :: ds) (.undef :: ls) _ ρ h n _ w (zj0 ds o.op.operands.toList acc) hl' (hds.cons ho) hs ?_ (hE.put (Mp.le_refl _) hnt hdst (zd4 ρ)) hG (by rw [zf3,hd]) hr
     exact hL.put (Mp.le_refl _) (fun d hd'=>by have:=hE.size; rw [hd'] at hdst; simp only [zd8,Nat.blt_eq] at hdst; omega) (zd4 ρ)
end
end
end Go.VE
namespace Go.VE
noncomputable section
open Go
def PureK (F:H→Nat→K→RR):Prop:=∀ h n k rr,F h n k=rr→rr≠.fail→∃ v,k v h n=rr∧∀ h' n' k',F h' n' k'=k' v h' n'
def zjd (F:H→Nat→K→RR):Prop:=∀ h n k rr,F h n k=rr→rr≠.fail→∃ v,k v h n=rr∧∀ k',F h n k'=k' v h n
theorem PureK.still {F:H→Nat→K→RR} (hp:PureK F):zjd F:=fun h n k rr e hne=>let ⟨v,h1,h2⟩:=hp h n k rr e hne; ⟨v,h1,h2 h n⟩
theorem pk_fail:PureK (fun _ _ _=>.fail):=fun _ _ _ _ e hne=>absurd e.symm hne
theorem zao (v:AV):PureK (fun h n k=>k v h n):=fun _ _ _ _ e _=>⟨v,e,fun _ _ _=>rfl⟩
theorem zbi {c:Bool} {F G:H→Nat→K→RR} (hf:PureK F) (hg:PureK G):PureK (fun h n k=>br c (F h n k) (G h n k)):=by
 cases c
 ·exact hg
 ·exact hf
theorem zbn {x:Nat} {F:Nat→H→Nat→K→RR} (hf:∀ c,PureK (F c)):PureK (fun h n k=>frc x fun c=>F c h n k):=by
 have:(fun h n k=>frc x fun c=>F c h n k)=F x:=by funext h n k; rw [zam]
 rw [this]; exact hf x
theorem zcx {v:AV} {F:Nat→Nat→H→Nat→K→RR} (hf:∀ i a,PureK (F i a)):PureK (fun h n k=>asInt v fun i a=>F i a h n k):=by
 cases v<;>first | exact hf _ _ | exact pk_fail
theorem znl {v:AV} {F:Bool→H→Nat→K→RR} (hf:∀ b,PureK (F b)):PureK (fun h n k=>asBool v fun b=>F b h n k):=by
 cases v<;>first | exact hf _ | exact pk_fail
theorem zhi {v:AV} {F:Nat→Nat→H→Nat→K→RR} (hf:∀ i a,PureK (F i a)):PureK (fun h n k=>zbx v fun i a=>F i a h n k):=by
 cases v<;>first | exact hf _ _ | exact pk_fail
theorem zzl {v:AV} {F:Nat→Nat→Nat→H→Nat→K→RR} (hf:∀ i a b,PureK (F i a b)):PureK (fun h n k=>asSl v fun i a b=>F i a b h n k):=by
 cases v<;>first | exact hf _ _ _ | exact pk_fail
theorem ztx {kd:Nat} {x y:AV} {F:Nat→Nat→H→Nat→K→RR} (hf:∀ i a,PureK (F i a)):PureK (fun h n k=>int2 kd x y fun i a=>F i a h n k):=
 zcx fun _ _=>zcx fun _ _=>zbi (zbi (hf _ _) pk_fail) pk_fail
theorem zo5 {x y:AV} {F:Nat→Nat→Nat→Nat→H→Nat→K→RR} (hf:∀ a b c d,PureK (F a b c d)):PureK (fun h n k=>str2 x y fun a b c d=>F a b c d h n k):=by
 cases x<;>first | exact pk_fail | (cases y<;>first | exact hf _ _ _ _ | exact pk_fail)
theorem zqf {v:AV} {m:Nat} {F:Nat→H→Nat→K→RR} (hf:∀ i,PureK (F i)):PureK (fun h n k=>idx v m fun i=>F i h n k):=
 zcx fun _ _=>zbi (zbi (hf _) pk_fail) pk_fail
theorem zzn (v:Option AV):PureK (kO v):=by cases v<;>first | exact pk_fail | exact zao _
theorem pk_kB (v:Option Bool):PureK (kB v):=by cases v<;>first | exact pk_fail | exact zao _
theorem pk_kN (v:Option Bool):PureK (kN v):=by cases v<;>first | exact pk_fail | exact zao _
theorem pk_kG (v:Option AV):PureK (kG v):=by cases v<;>first | exact pk_fail | exact zao _
def PureOp (f:Op'):Prop:=∃ F:List AV→Env→H→Nat→K→RR,(∀ call,f call=F)∧∀ ls e,PureK (F ls e)
def StillOp (f:Op'):Prop:=∃ F:List AV→Env→H→Nat→K→RR,(∀ call,f call=F)∧∀ ls e,zjd (F ls e)
theorem PureOp.still {f:Op'} (h:PureOp f):StillOp f:=let ⟨F,h1,h2⟩:=h; ⟨F,h1,fun ls e=>(h2 ls e).still⟩
theorem PureOp.of {f:Op'} (F:List AV→Env→H→Nat→K→RR) (h:f=fun _=>F) (hp:∀ ls e,PureK (F ls e)):PureOp f:=⟨F,fun _=>by rw [h],hp⟩
theorem po_bad:PureOp oBad:=.of _ rfl fun _ _=>pk_fail
theorem po_mv (x:Sx):PureOp (oMv x):=.of _ rfl fun _ _=>zao _
theorem zxv (x:Sx):PureOp (oStr x):=.of _ rfl fun ls e=>by
 show PureK (strA (x ls e))
 cases x ls e<;>first | exact pk_fail | exact zao _
theorem zzv (c a b:Sx):PureOp (zan c a b):=.of _ rfl fun _ _=>znl fun _=>zbi (zao _) (zao _)
theorem zwk (z:AV) (ps:List (Nat × Nat × Sx)):PureOp (zai z ps):=.of _ rfl fun _ _=>pk_kG _
theorem zwp (x:Sx):PureOp (zaz x):=.of _ rfl fun ls e=>by
 show PureK (zfl (x ls e))
 cases x ls e<;>first | exact pk_fail | exact zao _
theorem zis {kd:Nat} {x y:Sx} {F:Nat→Nat→H→Nat→K→RR} (hf:∀ i a,PureK (F i a)):PureOp (fun _ l e h n k=>int2 kd (x l e) (y l e) fun a b=>F a b h n k):=.of _ rfl fun _ _=>ztx hf
theorem po_add (a b:Nat) (x y:Sx):PureOp (oAdd a b x y):=zis fun _ _=>zbn fun _=>zao _
theorem po_sub (a b:Nat) (x y:Sx):PureOp (oSub a b x y):=zis fun _ _=>zbn fun _=>zao _
theorem po_mul (a b:Nat) (x y:Sx):PureOp (oMul a b x y):=zis fun _ _=>zbn fun _=>zao _
theorem po_quo (a b:Nat) (x y:Sx):PureOp (oQuo a b x y):=zis fun _ _=>zbi (zbi (zbi pk_fail (zbn fun _=>zao _)) pk_fail) pk_fail
theorem po_rem (a b:Nat) (x y:Sx):PureOp (oRem a b x y):=.of _ rfl fun ls e=>by
 show PureK (fun h n k=>vRem a b (x ls e) (y ls e) k h n)
 have gen:∀ v,PureK (fun h n k=>remI a b v (y ls e) h n k):=fun v=>ztx fun _ _=>zbi (zbi (zbi pk_fail (zbn fun _=>zao _)) pk_fail) pk_fail
 cases x ls e with
 | ukn i m u=>exact zcx fun _ _=>zbi (zbi (zbi (zbi (zbi (zbi (zbi pk_fail (zbi (zao _) pk_fail)) pk_fail) pk_fail) pk_fail) pk_fail) pk_fail) pk_fail
 | undef=>exact gen .undef
 | int p q=>exact gen (.int p q)
 | bool p=>exact gen (.bool p)
 | ptr p q=>exact gen (.ptr p q)
 | sl p q r s t=>exact gen (.sl p q r s t)
 | str p q=>exact gen (.str p q)
 | iface p q=>exact gen (.iface p q)
 | nilp=>exact gen .nilp
 | nils=>exact gen .nils
 | nili=>exact gen .nili
 | nilm=>exact gen .nilm
 | nilf=>exact gen .nilf
 | map p=>exact gen (.map p)
 | func p q=>exact gen (.func p q)
 | agg p=>exact gen (.agg p)
 | tup p=>exact gen (.tup p)
 | nl=>exact gen .nl
 | cons p q=>exact gen (.cons p q)
 | yld p=>exact gen (.yld p)
theorem po_and (a:Nat) (x y:Sx):PureOp (oAnd a x y):=.of _ rfl fun ls e=>by
 show PureK (andA a (x ls e) (y ls e))
 cases x ls e<;>first | exact zcx fun _ _=>zbi (zbi (zbi (zbi (zbn fun _=>zao _) pk_fail) (zbi (zbi (zbn fun _=>zao _) pk_fail) pk_fail)) pk_fail) pk_fail | exact ztx fun _ _=>zbn fun _=>zao _
theorem po_or (a:Nat) (x y:Sx):PureOp (oOr a x y):=zis fun _ _=>zbn fun _=>zao _
theorem po_xor (a:Nat) (x y:Sx):PureOp (oXor a x y):=zis fun _ _=>zbn fun _=>zao _
theorem po_clr (a b:Nat) (x y:Sx):PureOp (oClr a b x y):=zis fun _ _=>zbn fun _=>zao _
theorem po_shl (a b c:Nat) (x y:Sx):PureOp (oShl a b c x y):=.of _ rfl fun _ _=>zcx fun _ _=>zcx fun _ _=>zbi (zbi (zbn fun _=>zao _) pk_fail) pk_fail
theorem po_shr (a b c:Nat) (x y:Sx):PureOp (oShr a b c x y):=.of _ rfl fun ls e=>by
 show PureK (shrA a b c (x ls e) (y ls e))
 have gen:∀ v,PureK (fun h n k=>asInt v fun i u=>asInt (y ls e) fun j q=>br (Nat.beq i a) (br (Nat.blt q (hiN j)) (br (Nat.blt u c) (frc (u / 2 ^ Nat.min q b) fun d=>k (.int a d) h n) .fail) .fail) .fail):=
  fun v=>zcx fun _ _=>zcx fun _ _=>zbi (zbi (zbi (zbn fun _=>zao _) pk_fail) pk_fail) pk_fail
 cases x ls e with
 | ukn i m u=>exact zcx fun _ _=>zbi (zbi (zbi (zbi (zbi (zbn fun _=>zbn fun _=>zao _) pk_fail) pk_fail) pk_fail) pk_fail) pk_fail
 | undef=>exact gen .undef
 | int p q=>exact gen (.int p q)
 | bool p=>exact gen (.bool p)
 | ptr p q=>exact gen (.ptr p q)
 | sl p q r s t=>exact gen (.sl p q r s t)
 | str p q=>exact gen (.str p q)
 | iface p q=>exact gen (.iface p q)
 | nilp=>exact gen .nilp
 | nils=>exact gen .nils
 | nili=>exact gen .nili
 | nilm=>exact gen .nilm
 | nilf=>exact gen .nilf
 | map p=>exact gen (.map p)
 | func p q=>exact gen (.func p q)
 | agg p=>exact gen (.agg p)
 | tup p=>exact gen (.tup p)
 | nl=>exact gen .nl
 | cons p q=>exact gen (.cons p q)
 | yld p=>exact gen (.yld p)
theorem po_lt (a b c:Nat) (x y:Sx):PureOp (oLt a b c x y):=zis fun _ _=>zao _
theorem po_le (a b c:Nat) (x y:Sx):PureOp (oLe a b c x y):=zis fun _ _=>zao _
theorem po_min (a b c:Nat) (x y:Sx):PureOp (oMin a b c x y):=zis fun _ _=>zao _
theorem po_max (a b c:Nat) (x y:Sx):PureOp (oMax a b c x y):=zis fun _ _=>zao _
theorem po_cat (x y:Sx):PureOp (oCat x y):=.of _ rfl fun _ _=>zo5 fun _ _ _ _=>zbi (zbn fun _=>zao _) pk_fail
theorem po_ltS (x y:Sx):PureOp (oLtS x y):=.of _ rfl fun _ _=>zo5 fun _ _ _ _=>zao _
theorem po_leS (x y:Sx):PureOp (oLeS x y):=.of _ rfl fun _ _=>zo5 fun _ _ _ _=>zao _
theorem zwl (f:AV→AV→Option Bool) (x y:Sx):PureOp (oEq f x y):=.of _ rfl fun _ _=>pk_kB _
theorem zwo (f:AV→AV→Option Bool) (x y:Sx):PureOp (oNe f x y):=.of _ rfl fun _ _=>pk_kN _
theorem po_eqN (x:Sx):PureOp (oEqN x):=.of _ rfl fun _ _=>pk_kB _
theorem po_neN (x:Sx):PureOp (oNeN x):=.of _ rfl fun _ _=>pk_kN _
theorem po_not (x:Sx):PureOp (oNot x):=.of _ rfl fun _ _=>znl fun _=>zao _
theorem po_neg (a b:Nat) (x:Sx):PureOp (oNeg a b x):=.of _ rfl fun _ _=>zcx fun _ _=>zbi (zbn fun _=>zao _) pk_fail
theorem zqh (a b:Nat) (x:Sx):PureOp (zm8 a b x):=.of _ rfl fun _ _=>zcx fun _ _=>by first | exact zbn fun _=>zao _ | exact zbi (zbn fun _=>zao _) (zbn fun _=>zao _) | exact zbi (zbn fun _=>zao _) pk_fail
theorem zzt (t:Nat) (x:Sx):PureOp (zv4 t x):=.of _ rfl fun _ _=>zao _
theorem zzs (f:Nat) (c:List Sx):PureOp (zfn f c):=.of _ rfl fun _ _=>zao _
theorem zzm (m y:Nat) (lo hi:Option Nat):PureK (cutS m y lo hi):=by
 cases lo<;>cases hi<;>first | exact pk_fail | exact zbi (zbi (zbn fun _=>zao _) pk_fail) pk_fail
theorem znn (x:Sx) (lo hi:Option Sx):PureOp (za1 x lo hi):=.of (fun ls e h n k=>za1 x lo hi (fun _ _ _ _ _=>.fail) ls e h n k) rfl fun ls e=>by
 simp only [za1]
 cases x ls e<;>first | exact pk_fail | exact zzm _ _ _ _
theorem zqe (s b o c:Nat) (ex:Bool) (lo hi mx:Option Nat):PureK (zkd s b o c ex lo hi mx):=by
 cases lo<;>cases hi<;>cases mx<;>first | exact pk_fail | exact zbi (zbi (zbi (zao _) pk_fail) pk_fail) pk_fail
theorem znm (lo hi:Option Nat):PureK (zjh lo hi):=by
 cases lo<;>cases hi<;>first | exact pk_fail | exact zbi (zbi (zao _) pk_fail) pk_fail
theorem zhj (m s:Nat) (x:Sx) (lo hi mx:Option Sx):PureOp (zei m s x lo hi mx):=.of _ rfl fun _ _=>zhi fun _ _=>zqe _ _ _ _ _ _ _ _
theorem zwm (o:Nat) (x:Sx):PureOp (zaj o x):=.of _ rfl fun _ _=>zhi fun _ _=>zbn fun _=>zao _
theorem zzu (o:Nat) (s:Option Nat) (x:Sx):PureOp (oPart o s x):=.of _ rfl fun ls e=>by
 show PureK (zwg o s (x ls e))
 cases x ls e<;>first | exact pk_fail | (cases s<;>first | exact zao _ | exact zzn _)
theorem ztz (m s:Nat) (x i:Sx):PureOp (zeh m s x i):=.of _ rfl fun _ _=>zhi fun _ _=>zqf fun _=>zbn fun _=>zao _
theorem zwn (s:Nat) (x i:Sx):PureOp (zcl s x i):=.of _ rfl fun _ _=>zzl fun _ _ _=>zqf fun _=>zbn fun _=>zao _
theorem zzq (m s:Nat) (ag:Bool) (x i:Sx):PureOp (zv1 m s ag x i):=.of _ rfl fun ls e=>zqf fun j=>by
 cases x ls e<;>first | exact pk_fail | exact zbi (zao _) (zzn _)
theorem zzr (x i:Sx):PureOp (zv2 x i):=.of _ rfl fun ls e=>by
 show PureK (zlx (x ls e) (i ls e))
 cases x ls e<;>first | exact pk_fail | exact zqf fun _=>zbn fun _=>zao _
theorem po_ext (x:Sx) (i:Nat):PureOp (oExt x i):=.of _ rfl fun ls e=>by
 show PureK (extA (x ls e) i)
 cases x ls e<;>first | exact pk_fail | exact zzn _
theorem zwj (t:Nat) (z:AV) (x:Sx):PureOp (ztk t z x):=.of _ rfl fun ls e=>by
 show PureK (zpj t z (x ls e))
 cases x ls e<;>first | exact pk_fail | exact zbi (zao _) (zao _) | exact zao _
theorem zwi (m:Nat) (ts:List Nat) (x:Sx):PureOp (zij m ts x):=.of _ rfl fun ls e=>by
 show PureK (zr4 m ts (x ls e))
 cases x ls e<;>first | exact pk_fail | exact zbi (zbi (zao _) (zao _)) pk_fail | exact zao _
theorem zt1 (x:Sx):PureOp (ze1 x):=.of _ rfl fun ls e=>by
 show PureK (zl0 (x ls e))
 cases x ls e<;>first | exact pk_fail | exact zbi (zbn fun _=>zao _) pk_fail
theorem zqg (x:Sx):PureOp (zcm x):=.of _ rfl fun ls e=>by
 show PureK (zgc (x ls e))
 cases x ls e<;>first | exact pk_fail | exact zao _ | exact zbi (zbn fun _=>zao _) pk_fail
theorem zt0 (m:Nat):PureOp (zzb m):=.of _ rfl fun _ _=>zbi (zao _) pk_fail
theorem po_cap (x:Sx):PureOp (oCap x):=.of _ rfl fun ls e=>by
 show PureK (capA (x ls e))
 cases x ls e<;>first | exact pk_fail | exact zao _ | exact zbi (zbi (zao _) pk_fail) pk_fail
theorem zrn {F:H→Nat→K→RR} {G:H→H→Nat→K→RR} (hG:∀ h0,PureK (G h0)) (he:∀ h n k,F h n k=G h h n k):zjd F:=fun h n k rr e hne=>by
 rw [he] at e
 obtain ⟨v,h1,h2⟩:=hG h h n k rr e hne
 exact ⟨v,h1,fun k'=>by rw [he]; exact h2 h n k'⟩
theorem StillOp.of {f:Op'} (F:List AV→Env→H→Nat→K→RR) (h:f=fun _=>F) (hp:∀ ls e,zjd (F ls e)):StillOp f:=⟨F,fun _=>by rw [h],hp⟩
theorem pk_rdO (i:Nat) (o:Option AO):PureK (rdO i o):=by
 cases o with
 | none=>exact pk_fail
 | some o=>cases o<;>first | exact pk_fail | exact zbi (zao _) pk_fail | exact zbi (zbn fun _=>zao _) pk_fail
theorem zzp (i m:Nat) (o:Option AO):PureK (rdNO i m o):=by
 cases o with
 | none=>exact pk_fail
 | some o=>cases o<;>first | exact pk_fail | exact zbi (zao _) pk_fail
theorem zwx (a:Sx):StillOp (zaf a):=.of _ rfl fun ls e=>zrn (G:=fun h0 h n k=>zbx (a ls e) fun b off=>rdO off (getO h0 b) h n k) (fun _=>zhi fun _ _=>pk_rdO _ _) fun _ _ _=>rfl
theorem zwy (m:Nat) (a:Sx):StillOp (zbs m a):=.of _ rfl fun ls e=>zrn (G:=fun h0 h n k=>zbx (a ls e) fun b off=>rdNO off m (getO h0 b) h n k) (fun _=>zhi fun _ _=>zzp _ _ _) fun _ _ _=>rfl
theorem zwh (z:AV) (ok:Bool) (r:Option (Option AV)):PureK (zkg z ok r):=by
 cases r with
 | none=>exact pk_fail
 | some r=>cases r<;>exact zao _
theorem zuj (ks:Bool) (z:AV) (ok:Bool) (m x:Sx):StillOp (zc7 ks z ok m x):=
 .of _ rfl fun ls e=>zrn (G:=fun h0 h n k=>br (zgn ks (x ls e)) (zkg z ok (zq5 h0 (m ls e) (x ls e)) h n k) .fail) (fun _=>zbi (zwh _ _ _) pk_fail) fun _ _ _=>rfl
theorem zty (s:Option Seg):PureK (zqp s):=by
 cases s with
 | none=>exact pk_fail
 | some s=>cases s<;>first | exact zbn fun _=>zao _ | exact zbi (zao _) pk_fail
theorem zro (x:Sx):StillOp (zdd x):=.of _ rfl fun ls e=>by
 show zjd (zlm (x ls e))
 cases x ls e<;>first | exact pk_fail.still | exact (zao _).still | exact zrn (G:=fun h0 h n k=>zqp (zcz h0 1 _ (.sl _ _ _ _ _)) h n k) (fun _=>zty _) fun _ _ _=>rfl
theorem zzo (o:Option AO):PureK (lenO o):=by
 cases o with
 | none=>exact pk_fail
 | some o=>cases o<;>first | exact pk_fail | exact zbi (zbn fun _=>zao _) pk_fail
theorem zz1 (x:Sx):StillOp (zzc x):=.of _ rfl fun ls e=>by
 show zjd (zrd (x ls e))
 cases x ls e<;>first | exact pk_fail.still | exact (zao _).still | exact zrn (G:=fun h0 h n k=>lenO (getO h0 _) h n k) (fun _=>zzo _) fun _ _ _=>rfl
theorem zwz (s:Nat) (x:Sx) (lo hi mx:Option Sx):StillOp (zap s x lo hi mx):=.of (fun ls e h n k=>zap s x lo hi mx (fun _ _ _ _ _=>.fail) ls e h n k) rfl fun ls e=>by
 simp only [zap]
 cases x ls e
 case nils=>
  cases mx with
  | none=>exact (znm _ _).still
  | some m=>
   simp only
   cases bndA (m ls e) with
   | none=>exact pk_fail.still
   | some u=>cases u<;>first | exact (znm _ _).still | exact pk_fail.still
 case sl b o l c ex=>
  exact zrn (G:=fun h0 h n k=>br (br ex true (zgm s (getO h0 b))) (zkd s b o c (br mx.isSome (br ex true (Nat.blt 0 c)) ex) (bnd lo 0 ls e) (bnd hi l ls e) (bnd mx c ls e) h n k) .fail) (fun _=>zbi (zqe _ _ _ _ _ _ _ _) pk_fail) fun _ _ _=>rfl
 all_goals exact pk_fail.still
theorem zci {ds:List (Option Nat)} {x:Operand} {f:Sx→Op'} (h:∀ s,PureOp (f s)):PureOp (ok1 ds x f):=by
 unfold ok1; cases lowS ds x<;>first | exact h _ | exact po_bad
theorem zfb {ds:List (Option Nat)} {x y:Operand} {f:Sx→Sx→Op'} (h:∀ s t,PureOp (f s t)):PureOp (ok2 ds x y f):=by
 unfold ok2; cases lowS ds x<;>cases lowS ds y<;>first | exact h _ _ | exact po_bad
theorem po_ok3 {ds:List (Option Nat)} {x y z:Operand} {f:Sx→Sx→Sx→Op'} (h:∀ s t u,PureOp (f s t u)):PureOp (ok3 ds x y z f):=by
 unfold ok3; cases lowS ds x<;>cases lowS ds y<;>cases lowS ds z<;>first | exact h _ _ _ | exact po_bad
theorem zqo {ds:List (Option Nat)} {x:Operand} {f:Sx→Op'} (h:∀ s,StillOp (f s)):StillOp (ok1 ds x f):=by
 unfold ok1; cases lowS ds x<;>first | exact h _ | exact po_bad.still
theorem so_ok2 {ds:List (Option Nat)} {x y:Operand} {f:Sx→Sx→Op'} (h:∀ s t,StillOp (f s t)):StillOp (ok2 ds x y f):=by
 unfold ok2; cases lowS ds x<;>cases lowS ds y<;>first | exact h _ _ | exact po_bad.still
theorem zi7 {ds:List (Option Nat)} {op:BinOp} {f:AV→AV→Option Bool} {x y:Operand}:PureOp (zki ds op f x y):=by
 unfold zki; cases op<;>first | exact po_bad | exact zfb fun _ _=>zwl _ _ _ | exact zfb fun _ _=>zwo _ _ _
theorem zt2 {ds:List (Option Nat)} {tb:Tb} {op:BinOp} {t:TypeId} {x y:Operand}:PureOp (zm1 ds tb op t x y):=by
 unfold zm1
 split
 ·cases op<;>apply zfb<;>intro _ _<;>first | apply po_add | apply po_sub | apply po_mul | apply po_quo | apply po_rem | apply po_and | apply po_or | apply po_xor | apply po_clr | apply po_shl | apply po_shr | apply po_lt | apply po_le | apply zwl | apply zwo
 ·cases op<;>first | exact po_bad | (apply zfb; intro _ _; first | apply po_cat | apply po_ltS | apply po_leS | apply zwl | apply zwo)
 ·split<;>first | exact po_bad | exact zci fun _=>po_eqN _ | exact zci fun _=>po_neN _ | exact zfb fun _ _=>zwl _ _ _ | exact zfb fun _ _=>zwo _ _ _
 ·cases tb.eqf _
  ·exact po_bad
  ·split<;>first | exact zi7 | exact po_bad
 all_goals first | exact zi7 | exact po_bad | (split<;>exact zi7) | (cases Nat.blt 0 (size tb _)<;>exact zi7)
theorem zpp {tb:Tb} {o:Op} (h:zbm tb o=2) (ds:List (Option Nat)):PureOp (zbb ds tb o):=by
 cases o<;>simp only [zbm] at h<;>try (exact absurd h (by decide))
 case move=>exact zci fun _=>po_mv _
 case assign=>exact zci fun _=>po_mv _
 case pick=>exact po_ok3 fun _ _ _=>zzv _ _ _
 case build=>simp only [zbb]; (repeat' split)<;>first | exact po_bad | exact zwk _ _
 case nilCheck=>exact zci fun _=>zwp _
 case binOp=>exact zt2
 case unOp=>simp only [zbb]; split<;>first | exact po_bad | exact zci fun _=>po_not _ | exact zci fun _=>po_neg _ _ _
 case convert=>
  simp only [zbb]
  split
  ·exact zci fun _=>zqh _ _ _
  ·exact zci fun _=>zxv _
  ·rename_i e1 e2; rw [e1,e2] at h; exact absurd h (by simp)
  ·rename_i e1 e2; rw [e1,e2] at h; exact absurd h (by simp)
  ·rename_i e1 e2; rw [e1,e2] at h; exact absurd h (by simp)
  ·rename_i e1 e2; rw [e1,e2] at h; exact absurd h (by simp)
  ·rename_i e1 e2; rw [e1,e2] at h; exact absurd h (by simp)
  ·exact po_bad
 case makeInterface=>simp only [zbb]; split<;>first | exact po_bad | exact zci fun _=>zzt _ _
 case makeFunc fn _ _=>
  cases fn<;>simp only [zbb]<;>try exact po_bad
  rename_i first _ _
  cases first.isEmpty
  ·exact po_bad
  ·simp only [cond_true]
   split<;>first | exact po_bad | exact zzs _ _
 case slice t _ _ _ _=>
  simp only [zbb]
  split<;>first | exact po_bad | exact znn _ _ _ | exact zhj _ _ _ _ _ _ | skip
  ·rename_i e1 _ _ _ _; rw [e1] at h; exact absurd h (by simp)
  ·split<;>first | exact po_bad | exact zhj _ _ _ _ _ _
 case fieldAddr=>
  simp only [zbb]
  (repeat' split)<;>try exact po_bad
  rename_i f _
  cases Nat.beq (size tb f.type) 0
  ·exact zci fun _=>zwm _ _
  ·exact po_bad
 case field=>
  simp only [zbb]
  (repeat' split)<;>first | exact po_bad | exact zci fun _=>zzu _ _ _
 case indexAddr=>simp only [zbb]; split<;>first | exact po_bad | exact zfb fun _ _=>ztz _ _ _ _ | exact zfb fun _ _=>zwn _ _ _
 case index=>simp only [zbb]; split<;>first | exact po_bad | exact zfb fun _ _=>zzq _ _ _ _ _ | exact zfb fun _ _=>zzr _ _
 case typeAssert _ _ _ ok=>
  cases ok
  ·exact po_bad
  ·simp only [zbb]
   (repeat' split)<;>first | exact po_bad | exact zci fun _=>zwi _ _ _ | exact zci fun _=>zwj _ _ _
 case extract=>exact zci fun _=>po_ext _ _
 case call c=>
  simp only [zbb]
  split
  ·exact po_bad
  cases hc:c.callee with
  | value f=>rw [hc] at h; exact absurd h (by simp)
  | invoke r m=>rw [hc] at h; exact absurd h (by simp)
  | builtin b=>
   rw [hc] at h
   simp only [za2]
   cases b
   case len=>
    simp only at h
    cases hl:c.args.toList with
    | nil=>exact po_bad
    | cons x l=>
     cases l with
     | cons _ _=>exact po_bad
     | nil=>
      simp only
      (repeat' split)<;>first | exact po_bad | exact zci fun _=>zt1 _ | exact zci fun _=>zqg _ | exact zt0 _ | skip
      rename_i e1; rw [e1] at h; exact absurd h (by simp)
   case cap=>
    cases c.args.toList with
    | nil=>exact po_bad
    | cons x l=>
     cases l with
     | cons _ _=>exact po_bad
     | nil=>simp only; split<;>first | exact po_bad | exact zci fun _=>po_cap _
   case min=>
    cases c.args.toList with
    | nil=>exact po_bad
    | cons x l=>
     cases l with
     | nil=>exact po_bad
     | cons y l=>
      cases l with
      | cons _ _=>exact po_bad
      | nil=>simp only; split<;>first | exact po_bad | exact zfb fun _ _=>po_min _ _ _ _ _
   case max=>
    cases c.args.toList with
    | nil=>exact po_bad
    | cons x l=>
     cases l with
     | nil=>exact po_bad
     | cons y l=>
      cases l with
      | cons _ _=>exact po_bad
      | nil=>simp only; split<;>first | exact po_bad | exact zfb fun _ _=>po_max _ _ _ _ _
   all_goals exact absurd h (by simp)
theorem zsa {tb:Tb} {o:Op} (h:zbm tb o=1) (ds:List (Option Nat)):StillOp (zbb ds tb o):=by
 cases o<;>simp only [zbm] at h<;>try (exact absurd h (by decide))
 case load t a=>
  simp only [zbb]
  split
  ·exact po_bad.still
  ·cases isAg tb t
   ·exact zqo fun _=>zwx _
   ·exact zqo fun _=>zwy _ _
 case lookup=>simp only [zbb]; (repeat' split)<;>first | exact po_bad.still | exact so_ok2 fun _ _=>zuj _ _ _ _ _
 case convert=>
  simp only [zbb]
  split
  ·exact (zci fun _=>zqh _ _ _).still
  ·exact (zci fun _=>zxv _).still
  ·rename_i e1 e2; rw [e1,e2] at h; exact absurd h (by simp)
  ·rename_i e _ _
   cases isU8 tb e
   ·exact po_bad.still
   ·exact zqo fun _=>zro _
  ·rename_i e1 e2; rw [e1,e2] at h; exact absurd h (by simp)
  ·rename_i e1 e2; rw [e1,e2] at h; exact absurd h (by simp)
  ·rename_i e1 e2; rw [e1,e2] at h; exact absurd h (by simp)
  ·exact po_bad.still
 case slice t _ _ _ _=>
  simp only [zbb]
  split<;>first | exact po_bad.still | exact (znn _ _ _).still | exact (zhj _ _ _ _ _ _).still | exact zwz _ _ _ _ _ | skip
  ·split<;>first | exact po_bad.still | exact (zhj _ _ _ _ _ _).still
 case call c=>
  simp only [zbb]
  split
  ·exact po_bad.still
  cases hc:c.callee with
  | value f=>rw [hc] at h; exact absurd h (by simp)
  | invoke r m=>rw [hc] at h; exact absurd h (by simp)
  | builtin b=>
   rw [hc] at h
   simp only [za2]
   cases b
   case len=>
    simp only at h
    cases hl:c.args.toList with
    | nil=>exact po_bad.still
    | cons x l=>
     cases l with
     | cons _ _=>exact po_bad.still
     | nil=>
      simp only
      (repeat' split)<;>first | exact po_bad.still | exact (zci fun _=>zt1 _).still | exact (zci fun _=>zqg _).still | exact (zt0 _).still | exact zqo fun _=>zz1 _
   all_goals exact absurd h (by simp)
end
end Go.VE
namespace Go.VE
noncomputable section
open Go
theorem zfg {c x:Bool} (h:br c x false=true):c=true∧x=true:=by
 cases c
 ·cases h
 ·exact ⟨rfl,h⟩
theorem zak {a b:Nat} (h:Nat.beq a b=true):a=b:=Nat.eq_of_beq_eq_true h
theorem zr8 {a b:Bool} (h:br a b (!b)=true):a=b:=by cases a<;>cases b<;>first | rfl | cases h
theorem zq3:∀ (v w:AV),eqAV v w=true→v=w:=by
 intro v
 induction v with
 | int k u=>intro w h; cases w<;>first | cases h | (obtain ⟨h1,h2⟩:=zfg h; rw [zak h1,zak h2])
 | bool b=>intro w h; cases w<;>first | cases h | (rw [zr8 h])
 | ptr b o=>intro w h; cases w<;>first | cases h | (obtain ⟨h1,h2⟩:=zfg h; rw [zak h1,zak h2])
 | sl b o l c x=>
  intro w h
  cases w<;>first | cases h | skip
  obtain ⟨h1,h⟩:=zfg h
  obtain ⟨h2,h⟩:=zfg h
  obtain ⟨h3,h⟩:=zfg h
  obtain ⟨h4,h⟩:=zfg h
  rw [zak h1,zak h2,zak h3,zak h4,zr8 h]
 | str k u=>intro w h; cases w<;>first | cases h | (obtain ⟨h1,h2⟩:=zfg h; rw [zak h1,zak h2])
 | iface t v ih=>intro w h; cases w<;>first | cases h | (obtain ⟨h1,h2⟩:=zfg h; rw [zak h1,ih _ h2])
 | map b=>intro w h; cases w<;>first | cases h | (rw [zak h])
 | func f c ih=>intro w h; cases w<;>first | cases h | (obtain ⟨h1,h2⟩:=zfg h; rw [zak h1,ih _ h2])
 | agg l ih=>intro w h; cases w<;>first | cases h | (rw [ih _ h])
 | tup l ih=>intro w h; cases w<;>first | cases h | (rw [ih _ h])
 | cons a l ih1 ih2=>intro w h; cases w<;>first | cases h | (obtain ⟨h1,h2⟩:=zfg h; rw [ih1 _ h1,ih2 _ h2])
 | _=>intro w h; cases w<;>first | rfl | cases h
def LSof (V:Nat→AV):Nat→List AV
 | 0=>[]
 | i + 1=>V i :: LSof V i
def zdx (S:Nat→H × Nat):Nat→Sts
 | 0=>[]
 | i + 1=>S i :: zdx S i
def zdp (D:Nat→Nat) (e0:Env) (V:Nat→AV):Nat→Env
 | 0=>e0
 | i + 1=>putE (zdp D e0 V i) (D i) (V i)
theorem zen {V W:Nat→AV}:∀ {i:Nat},(∀ j,j < i→V j=W j)→LSof V i=LSof W i
 | 0,_=>rfl
 | i + 1,h=>by simp only [LSof]; rw [h i (by omega),zen fun j hj=>h j (by omega)]
theorem zje {S U:Nat→H × Nat}:∀ {i:Nat},(∀ j,j < i→S j=U j)→zdx S i=zdx U i
 | 0,_=>rfl
 | i + 1,h=>by simp only [zdx]; rw [h i (by omega),zje fun j hj=>h j (by omega)]
theorem zjc {D:Nat→Nat} {e0:Env} {V W:Nat→AV}:∀ {i:Nat},(∀ j,j < i→V j=W j)→zdp D e0 V i=zdp D e0 W i
 | 0,_=>rfl
 | i + 1,h=>by simp only [zdp]; rw [h i (by omega),zjc fun j hj=>h j (by omega)]
theorem zmh (S:Nat→H × Nat):∀ (i q:Nat),q < i→(zdx S i)[q]?=some (S (i - 1 - q))
 | i + 1,0,_=>by simp [zdx]
 | i + 1,q + 1,h=>by
  simp only [zdx,List.getElem?_cons_succ]
  rw [zmh S i q (by omega)]
  congr 2; omega
theorem zlf (V:Nat→AV):∀ (i p:Nat),p < i→nthD p (LSof V i)=V (i - 1 - p)
 | i + 1,0,_=>rfl
 | i + 1,p + 1,h=>by
  rw [ztj]
  simp only [LSof,List.getElem?_cons_succ]
  rw [← ztj,zlf V i p (by omega)]
  congr 1; omega
def Tr (call:zbc) (e0:Env) (V:Nat→AV) (S:Nat→H × Nat) (i:Nat) (o:DOper):Prop:=
 (za4 (LSof V i) o.lo.guard=true→(o.cls=0→o.lo.op call (LSof V i) e0 (S i).1 (S i).2 finK=.fin (V i) (S (i + 1)).1 (S (i + 1)).2)∧
  (o.cls≠0→S (i + 1)=S i∧∀ k',o.lo.op call (LSof V i) e0 (S i).1 (S i).2 k'=k' (V i) (S i).1 (S i).2))∧
 (za4 (LSof V i) o.lo.guard=false→V i=.undef∧S (i + 1)=S i)
def upd {α:Type} (f:Nat→α) (i:Nat) (v:α):Nat→α:=fun j=>if j=i then v else f j
theorem ze6 {α:Type} (f:Nat→α) (i:Nat) (v:α):upd f i v i=v:=if_pos rfl
theorem zla {α:Type} (f:Nat→α) {i j:Nat} (v:α) (h:j≠i):upd f i v j=f j:=if_neg h
theorem zr6 {r:RR} {f:AV→H→Nat→RR} {rr:RR} (h:zml r f=rr) (hne:rr≠.fail):∃ v h' n',r=.fin v h' n'∧f v h' n'=rr:=by
 cases r<;>first | exact absurd h.symm hne | exact ⟨_,_,_,rfl,h⟩
theorem zk7 {call:zbc} {e0:Env} {fin:List AV→Sts→Env→H→Nat→RR} {rr:RR} {D:Nat→Nat} (hne:rr≠.fail):
  ∀ (l:List DOper) (i:Nat) (V:Nat→AV) (S:Nat→H × Nat),(∀ o,o ∈ l→o.cls≠0→StillOp o.lo.op)→(∀ j o,l[j]?=some o→D (i + j)=o.lo.dst)→
   runD call e0 fin l (LSof V i) (zdx S i) (zdp D e0 V i) (S i).1 (S i).2=rr→
   ∃ V' S',(∀ j,j < i→V' j=V j)∧(∀ j,j≤i→S' j=S j)∧(∀ j o,l[j]?=some o→Tr call e0 V' S' (i + j) o)∧
    fin (LSof V' (i + l.length)) (zdx S' (i + l.length)) (zdp D e0 V' (i + l.length)) (S' (i + l.length)).1 (S' (i + l.length)).2=rr:=by
 intro l
 induction l with
 | nil=>intro i V S _ _ h; exact ⟨V,S,fun _ _=>rfl,fun _ _=>rfl,fun j o ho=>by simp at ho,h⟩
 | cons o l ih=>
  intro i V S hst hD h
  change br (za4 (LSof V i) o.lo.guard) (znv o.cls (o.lo.op call (LSof V i) e0 (S i).1 (S i).2) fun v h' n'=>runD call e0 fin l (v :: LSof V i) (((S i).1,(S i).2) :: zdx S i) (putE (zdp D e0 V i) o.lo.dst v) h' n')
   (runD call e0 fin l (.undef :: LSof V i) (((S i).1,(S i).2) :: zdx S i) (putE (zdp D e0 V i) o.lo.dst .undef) (S i).1 (S i).2)=rr at h
  have hDi:D i=o.lo.dst:=hD 0 o rfl
  have hD':∀ j p,l[j]?=some p→D (i + 1 + j)=p.lo.dst:=fun j p hp=>by rw [show i + 1 + j=i + (j + 1) by omega]; exact hD (j + 1) p hp
  have go:∀ (v:AV) (s:H × Nat),runD call e0 fin l (v :: LSof V i) (((S i).1,(S i).2) :: zdx S i) (putE (zdp D e0 V i) o.lo.dst v) s.1 s.2=rr→
    ∃ V' S',(∀ j,j < i→V' j=V j)∧(∀ j,j≤i→S' j=S j)∧V' i=v∧S' (i + 1)=s∧(∀ j o,l[j]?=some o→Tr call e0 V' S' (i + 1 + j) o)∧
     fin (LSof V' (i + 1 + l.length)) (zdx S' (i + 1 + l.length)) (zdp D e0 V' (i + 1 + l.length)) (S' (i + 1 + l.length)).1 (S' (i + 1 + l.length)).2=rr:=by
   intro v s hr
   have e1:LSof (upd V i v) (i + 1)=v :: LSof V i:=by
    simp only [LSof]; rw [ze6,zen fun j hj=>zla V v (by omega)]
   have e2:zdx (upd S (i + 1) s) (i + 1)=((S i).1,(S i).2) :: zdx S i:=by
    simp only [zdx]; rw [zla S s (by omega),zje fun j hj=>zla S s (by omega)]
   have e3:zdp D e0 (upd V i v) (i + 1)=putE (zdp D e0 V i) o.lo.dst v:=by
    simp only [zdp]; rw [ze6,hDi,zjc fun j hj=>zla V v (by omega)]
   rw [← e1,← e2,← e3] at hr
   have e4:s=upd S (i + 1) s (i + 1):=(ze6 S (i + 1) s).symm
   rw [e4] at hr
   rw [← e4] at hr
   rw [show s.1=(upd S (i + 1) s (i + 1)).1 by rw [ze6],show s.2=(upd S (i + 1) s (i + 1)).2 by rw [ze6]] at hr
   obtain ⟨V',S',g1,g2,g3,g4⟩:=ih (i + 1) (upd V i v) (upd S (i + 1) s) (fun p hp=>hst p (List.mem_cons_of_mem _ hp)) hD' hr
   exact ⟨V',S',fun j hj=>(g1 j (by omega)).trans (zla V v (by omega)),fun j hj=>(g2 j (by omega)).trans (zla S s (by omega)),
    (g1 i (by omega)).trans (ze6 _ _ _),(g2 (i + 1) (by omega)).trans (ze6 _ _ _),g3,g4⟩
  have fin':∀ (v:AV) (s:H × Nat),runD call e0 fin l (v :: LSof V i) (((S i).1,(S i).2) :: zdx S i) (putE (zdp D e0 V i) o.lo.dst v) s.1 s.2=rr→
    (∀ V' S',(∀ j,j < i→V' j=V j)→(∀ j,j≤i→S' j=S j)→V' i=v→S' (i + 1)=s→Tr call e0 V' S' i o)→
    ∃ V' S',(∀ j,j < i→V' j=V j)∧(∀ j,j≤i→S' j=S j)∧(∀ j p,(o :: l)[j]?=some p→Tr call e0 V' S' (i + j) p)∧
     fin (LSof V' (i + (o :: l).length)) (zdx S' (i + (o :: l).length)) (zdp D e0 V' (i + (o :: l).length)) (S' (i + (o :: l).length)).1 (S' (i + (o :: l).length)).2=rr:=by
   intro v s hr hT
   obtain ⟨V',S',g1,g2,g3,g4,g5,g6⟩:=go v s hr
   refine ⟨V',S',g1,g2,fun j p hp=>?_,?_⟩
   ·cases j with
    | zero=>cases hp; exact hT V' S' g1 g2 g3 g4
    | succ j=>rw [show i + (j + 1)=i + 1 + j by omega]; exact g5 j p hp
   ·rw [List.length_cons,show i + (l.length + 1)=i + 1 + l.length by omega]; exact g6
  cases hw:za4 (LSof V i) o.lo.guard with
  | false=>
   rw [hw,zbe] at h
   refine fin' .undef (S i) h fun V' S' g1 g2 g3 g4=>?_
   have hls:=zen g1
   exact ⟨fun hh=>(by rw [hls,hw] at hh; cases hh),fun _=>⟨g3,g4.trans (g2 i (by omega)).symm⟩⟩
  | true=>
   rw [hw,zb2] at h
   unfold znv at h; change br _ _ _=rr at h
   cases hc:Nat.beq o.cls 0 with
   | true=>
    rw [hc,zb2] at h
    obtain ⟨v,h',n',e1,e2⟩:=zr6 h hne
    refine fin' v (h',n') e2 fun V' S' g1 g2 g3 g4=>?_
    have hls:=zen g1
    refine ⟨fun _=>⟨fun _=>?_,fun hh=>absurd (zak hc) hh⟩,fun hh=>by rw [hls,hw] at hh; cases hh⟩
    rw [hls,g2 i (by omega),g3,g4]; exact e1
   | false=>
    rw [hc,zbe] at h
    have hc':o.cls≠0:=fun e=>by rw [e] at hc; cases hc
    obtain ⟨F,hF,hS⟩:=hst o (List.mem_cons_self) hc'
    rw [hF] at h
    obtain ⟨v,e1,e2⟩:=hS _ _ _ _ _ _ h hne
    refine fin' v (S i) e1 fun V' S' g1 g2 g3 g4=>?_
    have hls:=zen g1
    refine ⟨fun _=>⟨fun hh=>absurd hh hc',fun _=>⟨g4.trans (g2 i (by omega)).symm,fun k'=>?_⟩⟩,fun hh=>by rw [hls,hw] at hh; cases hh⟩
    rw [hls,g2 i (by omega),g3,hF]; exact e2 k'
theorem zpo {op:H→Nat→K→RR} {v:AV} {sts:Sts} {next rr:RR} (hS:zjd op) (hne:rr≠.fail):∀ (qs:List Nat),zlo op v sts next qs=rr→
  next=rr∧∀ q,q ∈ qs→∃ s,sts[q]?=some s∧∀ k',op s.1 s.2 k'=k' v s.1 s.2
 | [],h=>⟨h,fun q hq=>by cases hq⟩
 | q :: qs,h=>by
  change atS q sts (fun h n=>op h n fun v' _ _=>br (eqAV v v') (zlo op v sts next qs) .fail)=rr at h
  unfold atS at h
  rw [zc5] at h
  cases hq:sts[q]? with
  | none=>rw [hq] at h; exact absurd h.symm hne
  | some s=>
   rw [hq] at h
   obtain ⟨v',e1,e2⟩:=hS _ _ _ _ h hne
   obtain ⟨e3,e4⟩:=zab e1 hne
   have:=zq3 _ _ e3
   subst this
   obtain ⟨g1,g2⟩:=zpo hS hne qs e4
   refine ⟨g1,fun p hp=>?_⟩
   rcases List.mem_cons.1 hp with rfl | hp
   ·exact ⟨s,hq,e2⟩
   ·exact g2 p hp
theorem zyf {call:zbc} {e0:Env} {sts:Sts} {next rr:RR} {V:Nat→AV} (hne:rr≠.fail):∀ (l:List DOper),(∀ o,o ∈ l→o.qs≠[]→StillOp o.lo.op)→chkD call e0 sts next l.reverse (LSof V l.length)=rr→
  next=rr∧∀ j o,l[j]?=some o→za4 (LSof V j) o.lo.guard=true→∀ q,q ∈ o.qs→∃ s,sts[q]?=some s∧∀ k',o.lo.op call (LSof V j) e0 s.1 s.2 k'=k' (V j) s.1 s.2:=by
 intro l
 suffices ∀ (rl:List DOper),(∀ o,o ∈ rl→o.qs≠[]→StillOp o.lo.op)→chkD call e0 sts next rl (LSof V rl.length)=rr→
   next=rr∧∀ j o,rl.reverse[j]?=some o→za4 (LSof V j) o.lo.guard=true→∀ q,q ∈ o.qs→∃ s,sts[q]?=some s∧∀ k',o.lo.op call (LSof V j) e0 s.1 s.2 k'=k' (V j) s.1 s.2 by
  intro hst h
  have:=this l.reverse (fun o ho=>hst o (List.mem_reverse.1 ho)) (by rw [List.length_reverse]; exact h)
  rw [List.reverse_reverse] at this
  exact this
 intro rl
 induction rl with
 | nil=>intro _ h; exact ⟨h,fun j o ho=>by simp at ho⟩
 | cons o rl ih=>
  intro hst h
  change br (za4 (LSof V rl.length) o.lo.guard) (zlo (o.lo.op call (LSof V rl.length) e0) (V rl.length) sts (chkD call e0 sts next rl (LSof V rl.length)) o.qs) (chkD call e0 sts next rl (LSof V rl.length))=rr at h
  have hst':∀ p,p ∈ rl→p.qs≠[]→StillOp p.lo.op:=fun p hp=>hst p (List.mem_cons_of_mem _ hp)
  have key:chkD call e0 sts next rl (LSof V rl.length)=rr∧(za4 (LSof V rl.length) o.lo.guard=true→∀ q,q ∈ o.qs→∃ s,sts[q]?=some s∧∀ k',o.lo.op call (LSof V rl.length) e0 s.1 s.2 k'=k' (V rl.length) s.1 s.2):=by
   cases hw:za4 (LSof V rl.length) o.lo.guard with
   | false=>rw [hw,zbe] at h; exact ⟨h,fun hh=>by cases hh⟩
   | true=>
    rw [hw,zb2] at h
    by_cases hq:o.qs=[]
    ·rw [hq] at h ⊢
     exact ⟨h,fun _ q hq=>by cases hq⟩
    ·obtain ⟨F,hF,hS⟩:=hst o List.mem_cons_self hq
     rw [hF] at h ⊢
     obtain ⟨g1,g2⟩:=zpo (hS _ _) hne _ h
     exact ⟨g1,fun _=>g2⟩
  obtain ⟨g1,g2⟩:=ih hst' key.1
  refine ⟨g1,fun j p hp=>?_⟩
  rw [List.reverse_cons,List.getElem?_append] at hp
  split at hp
  ·exact g2 j p hp
  ·rename_i hj
   rw [List.length_reverse] at hp hj
   rw [List.getElem?_singleton] at hp
   split at hp
   ·cases hp
    have:j=rl.length:=by omega
    subst this
    exact key.2
   ·cases hp
end
end Go.VE
namespace Go.VE
noncomputable section
open Go
structure PE where
 f:Nat
 nm:Nat
 r:Nat
 y:Nat × Nat
def pick (l:List PE) (s:Nat→Bool) (b:Nat):Option PE:=l.find? fun p=>Nat.beq p.nm b && s p.f
def Mp.X (ρ:Mp) (l:List PE) (s:Nat→Bool):Mp:=
 ⟨fun b=>match pick l s b with | some p=>some (p.r,0) | none=>ρ b,fun b=>match pick l s b with | some p=>p.y | none=>ρ.g b⟩
theorem zer {l:List PE} {s:Nat→Bool} {b:Nat} {p:PE} (h:pick l s b=some p):p ∈ l∧p.nm=b∧s p.f=true:=by
 unfold pick at h
 have h1:=List.mem_of_find?_eq_some h
 have h2:=List.find?_some h
 simp only [Bool.and_eq_true] at h2
 exact ⟨h1,Nat.eq_of_beq_eq_true h2.1,h2.2⟩
theorem znk {l:List PE} {s:Nat→Bool} {b:Nat} (h:pick l s b=none):∀ p ∈ l,p.nm=b→s p.f=false:=by
 intro p hp e
 unfold pick at h
 have:=List.find?_eq_none.1 h p hp
 cases hs:s p.f
 ·rfl
 ·exfalso; apply this; rw [e,Nat.beq_refl,hs]; rfl
def zmj (l:List PE):Prop:=∀ p ∈ l,∀ q ∈ l,p.nm=q.nm→p=q
theorem Mp.X_le {ρ σ:Mp} {l l':List PE} {s s':Nat→Bool} (hl:ρ.le σ) (ha:zmj l') (hf:∀ p ∈ l',σ p.nm=none)
  (h:∀ p ∈ l,s p.f=true→(p ∈ l'∧s' p.f=true)∨(σ p.nm=some (p.r,0)∧σ.g p.nm=p.y)):(ρ.X l s).le (σ.X l' s'):=by
 have old:∀ b x,σ b=some x→pick l' s' b=none:=fun b x hb=>by
  cases hp:pick l' s' b with
  | none=>rfl
  | some p=>
   obtain ⟨h1,h2,_⟩:=zer hp
   rw [← h2,hf p h1] at hb; cases hb
 have same:∀ p,p ∈ l'→s' p.f=true→pick l' s' p.nm=some p:=fun p h1 h2=>by
  cases hp:pick l' s' p.nm with
  | none=>rw [znk hp p h1 rfl] at h2; cases h2
  | some q=>
   obtain ⟨h3,h4,_⟩:=zer hp
   rw [ha q h3 p h1 h4]
 refine ⟨fun b x hb=>?_,fun b x hb=>?_⟩
 ·show (match pick l' s' b with | some p=>some (p.r,0) | none=>σ b)=some x
  have hb':(match pick l s b with | some p=>some (p.r,0) | none=>ρ b)=some x:=hb
  cases hp:pick l s b with
  | none=>
   rw [hp] at hb'
   have h1:=hl.at_ b x hb'
   rw [old b x h1]; exact h1
  | some p=>
   rw [hp] at hb'
   obtain ⟨h1,h2,h3⟩:=zer hp
   rcases h p h1 h3 with ⟨g1,g2⟩ | ⟨g1,g2⟩
   ·rw [← h2,same p g1 g2]; exact hb'
   ·rw [h2] at g1
    rw [old b _ g1,g1]; exact hb'
 ·show (match pick l' s' b with | some p=>p.y | none=>σ.g b)=(match pick l s b with | some p=>p.y | none=>ρ.g b)
  have hb':(match pick l s b with | some p=>some (p.r,0) | none=>ρ b)=some x:=hb
  cases hp:pick l s b with
  | none=>
   rw [hp] at hb'
   rw [old b x (hl.at_ b x hb')]; exact hl.gs b x hb'
  | some p=>
   obtain ⟨h1,h2,h3⟩:=zer hp
   rcases h p h1 h3 with ⟨g1,g2⟩ | ⟨g1,g2⟩
   ·rw [← h2,same p g1 g2]
   ·rw [h2] at g1 g2
    rw [old b _ g1]; exact g2
theorem Mp.X_off {ρ:Mp} {l:List PE} {s:Nat→Bool} (h:∀ p ∈ l,s p.f=false):ρ.X l s=ρ:=by
 have hp:∀ b,pick l s b=none:=fun b=>by
  cases hp:pick l s b with
  | none=>rfl
  | some p=>
   obtain ⟨h1,_,h3⟩:=zer hp
   rw [h p h1] at h3; cases h3
 unfold Mp.X
 simp only [hp]
end
end Go.VE
namespace Go.VE
noncomputable section
open Go
theorem zk0 (acc:List Nat) (j:Nat):∀ (es:List Edge) (s:Nat),(zir acc es s).testBit j=true→s.testBit j=true∨∃ e,e ∈ es∧Region.binds .any e=true∧(e.on=j∨((nthL e.on acc).getD 0).testBit j=true)
 | [],s,h=>.inl h
 | e :: es,s,h=>by
  simp only [zir] at h
  rcases zk0 acc j es _ h with h1 | ⟨e',h1,h2,h3⟩
  ·cases hb:Region.binds .any e with
   | false=>rw [hb,cond_false] at h1; exact .inl h1
   | true=>
    rw [hb,cond_true] at h1
    change (s ||| 2 ^ e.on ||| (nthL e.on acc).getD 0).testBit j=true at h1
    rw [Nat.testBit_or,Nat.testBit_or,Bool.or_eq_true,Bool.or_eq_true] at h1
    rcases h1 with (h1 | h1) | h1
    ·exact .inl h1
    ·rw [Nat.testBit_two_pow,decide_eq_true_eq] at h1
     exact .inr ⟨e,List.mem_cons_self,hb,.inl h1⟩
    ·exact .inr ⟨e,List.mem_cons_self,hb,.inr h1⟩
  ·exact .inr ⟨e',List.mem_cons_of_mem _ h1,h2,h3⟩
theorem zdz:∀ (l:List Oper) (acc:List Nat),(zff l acc).length=acc.length + l.length∧(zff l acc).take acc.length=acc∧
  ∀ j o,l[j]?=some o→(zff l acc)[acc.length + j]?=some (zir ((zff l acc).take (acc.length + j)) o.after.toList 0)
 | [],acc=>⟨by simp [zff],by simp [zff],fun j o h=>by simp at h⟩
 | o :: l,acc=>by
  obtain ⟨h1,h2,h3⟩:=zdz l (acc ++ [zir acc o.after.toList 0])
  simp only [List.length_append,List.length_singleton] at h1 h2 h3
  have e1:zff (o :: l) acc=zff l (acc ++ [zir acc o.after.toList 0]):=rfl
  have h4:(zff l (acc ++ [zir acc o.after.toList 0])).take acc.length=acc:=by
   have:=congrArg (List.take acc.length) h2
   rw [List.take_take,Nat.min_eq_left (by omega),List.take_append_of_le_length (Nat.le_refl _),List.take_length] at this
   exact this
  rw [e1]
  refine ⟨by rw [h1,List.length_cons]; omega,h4,fun j p hp=>?_⟩
  cases j with
  | zero=>
   cases hp
   rw [Nat.add_zero,h4]
   have:=congrArg (fun x=>x[acc.length]?) h2
   rw [List.getElem?_take_of_lt (by omega)] at this
   rw [this]; simp
  | succ j=>
   have:=h3 j p hp
   rw [show acc.length + (j + 1)=acc.length + 1 + j by omega]
   exact this
theorem zht {ops:List Oper} {i j:Nat} {o:Oper} (ho:ops[i]?=some o) (h:zbg (befs ops) i j=true):∃ e,e ∈ o.after.toList∧Region.binds .any e=true∧(e.on=j∨zbg (befs ops) e.on j=true):=by
 obtain ⟨h1,h2,h3⟩:=zdz ops []
 have h4:=h3 i o ho
 simp only [List.length_nil,Nat.zero_add] at h4
 unfold zbg befs at h ⊢
 rw [zc5,h4,Option.getD_some] at h
 rcases zk0 _ _ _ _ h with h5 | ⟨e,h5,h6,h7⟩
 ·rw [Nat.zero_testBit] at h5; cases h5
 ·refine ⟨e,h5,h6,h7.imp id fun h7=>?_⟩
  rw [zc5] at h7 ⊢
  rw [List.getElem?_take] at h7
  split at h7
  ·exact h7
  ·rw [Option.getD_none,Nat.zero_testBit] at h7; cases h7
theorem mem_effs {cls:List Nat}:∀ {k c:Nat},c ∈ effs cls k ↔ k≤c∧cls[c - k]?=some 0:=by
 induction cls with
 | nil=>intro k c; simp [effs]
 | cons x l ih=>
  intro k c
  unfold effs
  cases hx:Nat.beq x 0 with
  | true=>
   have:=zak hx; subst this
   rw [cond_true,List.mem_cons,ih]
   constructor
   ·rintro (rfl | ⟨h1,h2⟩)
    ·exact ⟨Nat.le_refl _,by simp⟩
    ·exact ⟨by omega,by rw [show c - k=(c - (k + 1)) + 1 by omega,List.getElem?_cons_succ]; exact h2⟩
   ·rintro ⟨h1,h2⟩
    by_cases e:c=k
    ·exact .inl e
    ·right
     rw [show c - k=(c - (k + 1)) + 1 by omega,List.getElem?_cons_succ] at h2
     exact ⟨by omega,h2⟩
  | false=>
   have hx':x≠0:=fun e=>by rw [e] at hx; cases hx
   rw [cond_false,ih]
   constructor
   ·rintro ⟨h1,h2⟩
    exact ⟨by omega,by rw [show c - k=(c - (k + 1)) + 1 by omega,List.getElem?_cons_succ]; exact h2⟩
   ·rintro ⟨h1,h2⟩
    by_cases e:c=k
    ·subst e; rw [Nat.sub_self] at h2; exact absurd (Option.some.inj h2) hx'
    ·rw [show c - k=(c - (k + 1)) + 1 by omega,List.getElem?_cons_succ] at h2
     exact ⟨by omega,h2⟩
theorem zoe (cls:List Nat):∀ k,(effs cls k).Pairwise (· < ·):=by
 induction cls with
 | nil=>intro k; exact .nil
 | cons x l ih=>
  intro k
  unfold effs
  cases Nat.beq x 0
  ·exact ih _
  ·exact .cons (fun c hc=>by have:=(mem_effs.1 hc).1; omega) (ih _)
theorem zom {bs es:List Nat} {c d:Nat} (hc:c ∈ es) (hd:d ∈ es) (hlt:c < d):zbg bs d c=true∨d ∈ zsm bs es:=by
 cases ha:zbg bs d c with
 | true=>exact .inl rfl
 | false=>
  refine .inr (List.mem_filter.2 ⟨hd,List.any_eq_true.2 ⟨c,hc,?_⟩⟩)
  rw [ha,show Nat.blt c d=true from by rw [Nat.blt_eq]; exact hlt]; rfl
theorem zq6 {bs es:List Nat} {d:Nat} (h:d ∈ zsm bs es):d ∈ es:=(List.mem_filter.1 h).1
theorem zjm {bs es fs:List Nat}:∀ {n:Nat},zp1 bs es fs n=true→∀ j,j < n→j ∉ fs→∀ f ∈ fs,zbg bs j f=true→∀ c ∈ es,c < f→zbg bs j c=true
 | 0,_,j,hj,_,_,_,_,_,_,_=>by omega
 | n + 1,h,j,hj,hn,f,hf,ha,c,hc,hcf=>by
  simp only [zp1,Bool.and_eq_true,Bool.or_eq_true,Bool.not_eq_true',List.all_eq_true] at h
  by_cases e:j=n
  ·subst e
   rcases h.1 with h0 | h0
   ·exact absurd (memN_iff.1 h0) hn
   ·rcases h0 f hf with h1 | h1
    ·rw [ha] at h1; cases h1
    ·rcases h1 c hc with h2 | h2
     ·rw [show Nat.blt c f=true from by rw [Nat.blt_eq]; exact hcf] at h2; cases h2
     ·exact h2
  ·exact zjm h.2 j (by omega) hn f hf ha c hc hcf
theorem zp6 (acc:List Nat) (j:Nat):∀ (es:List Edge) (s:Nat),s.testBit j=true→(zir acc es s).testBit j=true
 | [],_,h=>h
 | e :: es,s,h=>by
  simp only [zir]
  refine zp6 acc j es _ ?_
  cases hb:Region.binds .any e with
  | false=>exact h
  | true=>
   rw [cond_true]
   show (s ||| 2 ^ e.on ||| (nthL e.on acc).getD 0).testBit j=true
   rw [Nat.testBit_or,Nat.testBit_or,h]; rfl
theorem zm3 (acc:List Nat) (j:Nat):∀ (es:List Edge) (s:Nat) (e:Edge),e ∈ es→Region.binds .any e=true→((nthL e.on acc).getD 0).testBit j=true→(zir acc es s).testBit j=true
 | d :: es,s,e,he,hb,h=>by
  simp only [zir]
  rcases List.mem_cons.1 he with rfl | he
  ·refine zp6 acc j es _ ?_
   rw [hb,cond_true]
   show (s ||| 2 ^ e.on ||| (nthL e.on acc).getD 0).testBit j=true
   rw [Nat.testBit_or,h,Bool.or_true]
  ·exact zm3 acc j es _ e he hb h
theorem zpi {ops:List Oper} {i k:Nat} {o:Oper} (ho:ops[i]?=some o) {e:Edge} (he:e ∈ o.after.toList) (hb:Region.binds .any e=true) (hlt:e.on < i) (h:zbg (befs ops) e.on k=true):zbg (befs ops) i k=true:=by
 obtain ⟨h1,h2,h3⟩:=zdz ops []
 have h4:=h3 i o ho
 simp only [List.length_nil,Nat.zero_add] at h4
 unfold zbg befs at h ⊢
 rw [zc5,h4,Option.getD_some]
 refine zm3 _ _ _ _ e he hb ?_
 rw [zc5] at h ⊢
 rw [List.getElem?_take_of_lt hlt]
 exact h
theorem zn1 {ops:List Oper} (hE:∀ (i:Nat) (o:Oper),ops[i]?=some o→∀ e ∈ o.after.toList,Region.binds .any e=true→e.on < i):∀ (i j k:Nat),zbg (befs ops) i j=true→zbg (befs ops) j k=true→zbg (befs ops) i k=true:=by
 intro i
 induction i using Nat.strongRecOn with
 | _ i ih=>
  intro j k h1 h2
  have hi:∃ o,ops[i]?=some o:=by
   cases ho:ops[i]? with
   | some o=>exact ⟨o,rfl⟩
   | none=>
    exfalso
    obtain ⟨g1,_,_⟩:=zdz ops []
    unfold zbg befs at h1
    rw [zc5,List.getElem?_eq_none (by rw [g1]; simpa using ho),Option.getD_none,Nat.zero_testBit] at h1
    cases h1
  obtain ⟨o,ho⟩:=hi
  obtain ⟨e,e1,e2,e3⟩:=zht ho h1
  have hlt:=hE i o ho e e1 e2
  rcases e3 with rfl | e3
  ·exact zpi ho e1 e2 hlt h2
  ·exact zpi ho e1 e2 hlt (ih e.on hlt j k e3 h2)
theorem zn0 {bs:List Nat} {m i q:Nat}:∀ (rest done:List Nat),rest.Pairwise (· < ·)→(q ∈ rest∨q=m∧∀ c ∈ rest,c < m)→(∀ d,d ∈ done→zbg bs d i=false)→(∀ c,c ∈ rest→c < q→zbg bs c i=false)→(∀ c,c ∈ rest→q≤c→zbg bs i c=false)→
  q ∈ zrx bs m i done rest
 | [],done,_,hq,h1,_,_=>by
  have:done.all (fun c=>!zbg bs c i)=true:=by rw [List.all_eq_true]; intro d hd; rw [h1 d hd]; rfl
  simp only [zrx,this,cond_true]
  rcases hq with hq | hq
  ·cases hq
  ·rw [hq.1]; exact List.mem_singleton.2 rfl
 | c :: rest,done,hp,hq,h1,h2,h3=>by
  cases hp with
  | cons hp1 hp2=>
   simp only [zrx]
   rw [List.mem_append]
   by_cases e:q=c
   ·subst e
    left
    have e1:done.all (fun d=>!zbg bs d i)=true:=by rw [List.all_eq_true]; intro d hd; rw [h1 d hd]; rfl
    have e2:(q :: rest).all (fun d=>!zbg bs i d)=true:=by
     rw [List.all_eq_true]
     intro d hd
     have:q≤d:=by
      rcases List.mem_cons.1 hd with rfl | hd
      ·exact Nat.le_refl _
      ·exact Nat.le_of_lt (hp1 d hd)
     rw [h3 d hd this]; rfl
    rw [e1,e2]; exact List.mem_singleton.2 rfl
   ·right
    have hcq:c < q:=by
     rcases hq with hq | hq
     ·rcases List.mem_cons.1 hq with rfl | hq
      ·exact absurd rfl e
      ·exact hp1 q hq
     ·rw [hq.1]; exact hq.2 c List.mem_cons_self
    refine zn0 rest (done ++ [c]) hp2 ?_ ?_ ?_ ?_
    ·rcases hq with hq | hq
     ·rcases List.mem_cons.1 hq with rfl | hq
      ·exact absurd rfl e
      ·exact .inl hq
     ·exact .inr ⟨hq.1,fun d hd=>hq.2 d (List.mem_cons_of_mem _ hd)⟩
    ·intro d hd
     rcases List.mem_append.1 hd with hd | hd
     ·exact h1 d hd
     ·rw [List.mem_singleton.1 hd]; exact h2 c List.mem_cons_self hcq
    ·intro d hd; exact h2 d (List.mem_cons_of_mem _ hd)
    ·intro d hd; exact h3 d (List.mem_cons_of_mem _ hd)
theorem zii {m i:Nat}:∀ (es:List Nat),es.Pairwise (· < ·)→(ze0 m i es ∈ es∧i≤ze0 m i es∨ze0 m i es=m)∧∀ c,c ∈ es→c < ze0 m i es→(∀ d ∈ es,d < m)→c < i
 | [],_=>⟨.inr rfl,fun c hc=>by cases hc⟩
 | c :: l,hp=>by
  cases hp with
  | cons hp1 hp2=>
   obtain ⟨h1,h2⟩:=zii (m:=m) (i:=i) l hp2
   unfold ze0
   cases hb:Nat.blt c i with
   | true=>
    rw [cond_true]
    refine ⟨h1.imp (fun h=>⟨List.mem_cons_of_mem _ h.1,h.2⟩) id,fun d hd hlt hm=>?_⟩
    rcases List.mem_cons.1 hd with rfl | hd
    ·rwa [Nat.blt_eq] at hb
    ·exact h2 d hd hlt (fun x hx=>hm x (List.mem_cons_of_mem _ hx))
   | false=>
    rw [cond_false]
    have hci:i≤c:=by
     rcases Nat.lt_or_ge c i with h | h
     ·rw [← Nat.blt_eq,hb] at h; cases h
     ·exact h
    refine ⟨.inl ⟨List.mem_cons_self,hci⟩,fun d hd hlt _=>?_⟩
    rcases List.mem_cons.1 hd with rfl | hd
    ·omega
    ·have:=hp1 d hd; omega
theorem zng:∀ {l:List Nat},zqc l=true→l.Nodup
 | [],_=>.nil
 | d :: l,h=>by
  simp only [zqc,Bool.and_eq_true,Bool.not_eq_true'] at h
  refine List.nodup_cons.2 ⟨fun hd=>?_,zng h.2⟩
  rw [memN_iff.2 hd] at h; cases h.1
theorem zjz {bs:List Nat} {i t:Nat}:∀ {l:List Oper} {k:Nat},zqk bs i t l k=true→∀ j o,l[j]?=some o→o.dst=some t→(k + j < i→zbg bs i (k + j)=true)∧(i < k + j→zbg bs (k + j) i=true)
 | [],_,_,j,o,ho,_=>by simp at ho
 | p :: l,k,h,j,o,ho,hd=>by
  simp only [zqk,Bool.and_eq_true] at h
  cases j with
  | zero=>
   cases ho
   have h1:=h.1
   rw [hd] at h1
   simp only [beq_self_eq_true,cond_true] at h1
   rw [Nat.add_zero]
   cases hb:Nat.blt k i with
   | true=>
    rw [hb,cond_true] at h1
    rw [Nat.blt_eq] at hb
    exact ⟨fun _=>h1,fun h=>by omega⟩
   | false=>
    rw [hb,cond_false,Bool.or_eq_true] at h1
    have hk:¬ k < i:=fun h=>by rw [← Nat.blt_eq,hb] at h; cases h
    refine ⟨fun h=>absurd h hk,fun h=>?_⟩
    rcases h1 with h1 | h1
    ·have:=zak h1; omega
    ·exact h1
  | succ j=>
   have:=zjz h.2 j o ho hd
   rw [show k + (j + 1)=k + 1 + j by omega]
   exact this
theorem zk1 {t:Nat}:∀ {l:List Operand},Operand.tmp t ∈ l→t ∈ zqr l
 | [],h=>by cases h
 | x :: l,h=>by
  rcases List.mem_cons.1 h with rfl | h
  ·exact List.mem_cons_self
  ·have:=zk1 h
   cases x<;>first | exact List.mem_cons_of_mem _ this | exact this
theorem zge {bs:List Nat} {all:List Oper}:∀ {l:List Oper} {k:Nat},zhe bs all l k=true→∀ j o,l[j]?=some o→zf2 bs all (k + j) o=true
 | [],_,_,j,o,ho=>by simp at ho
 | p :: l,k,h,j,o,ho=>by
  simp only [zhe,Bool.and_eq_true] at h
  cases j with
  | zero=>cases ho; exact h.1
  | succ j=>rw [show k + (j + 1)=k + 1 + j by omega]; exact zge h.2 j o ho
theorem zjx {t:Nat}:∀ {ds:List (Option Nat)} {p:Nat},zc0 t ds 0=some p→ds[p]?=some (some t)
 | [],p,h=>by cases h
 | none :: l,p,h=>by
  simp only [zc0] at h
  rw [zdw] at h
  cases hq:zc0 t l 0 with
  | none=>rw [hq] at h; cases h
  | some q=>rw [hq] at h; cases h; rw [List.getElem?_cons_succ]; exact zjx hq
 | some d :: l,p,h=>by
  simp only [zc0] at h
  cases hb:Nat.beq d t with
  | true=>rw [hb,cond_true] at h; cases h; rw [zak hb]; rfl
  | false=>
   rw [hb,cond_false,zdw] at h
   cases hq:zc0 t l 0 with
   | none=>rw [hq] at h; cases h
   | some q=>rw [hq] at h; cases h; rw [List.getElem?_cons_succ]; exact zjx hq
theorem zh3 {t:Nat}:∀ {ds:List (Option Nat)} {k:Nat},zc0 t ds k=none→some t ∉ ds
 | [],_,_=>by simp
 | none :: l,k,h=>by
  simp only [zc0] at h
  have:=zh3 h
  simp [this]
 | some d :: l,k,h=>by
  simp only [zc0] at h
  cases hb:Nat.beq d t with
  | true=>rw [hb,cond_true] at h; cases h
  | false=>
   rw [hb,cond_false] at h
   have h1:=zh3 h
   have h2:d≠t:=fun e=>by rw [e,Nat.beq_refl] at hb; cases hb
   simp [h1,Ne.symm h2]
end
end Go.VE
namespace Go.VE
noncomputable section
open Go
theorem zh9 {w:World} {b:Nat} {o:Obj} (h:w.heap[b]?=some o):b < w.heap.size:=(Array.getElem?_eq_some_iff.1 h).1
theorem Goes.held {ρ σ:Mp} {h h':H} {n n':Nat} {w w':World} (hG:Goes ρ h n w σ h' n' w') {b:Nat} {o:Obj} (hb:w.heap[b]?=some o) (hl:¬ live ρ h b):w'.heap[b]?=some o∧¬ live σ h' b:=
 ⟨(hG.keep b (zh9 hb) hl).trans hb,fun h2=>hl (hG.lives b (zh9 hb) h2)⟩
theorem Goes.alloc {ρ:Mp} {h:H} {n:Nat} {w:World} (hi:Inv ρ h n w) (o:Obj):Goes ρ h n w ρ h n (w.alloc o)∧(w.alloc o).heap[w.heap.size]?=some o∧¬ live ρ h w.heap.size:=by
 have old:∀ q,q < w.heap.size→(w.alloc o).heap[q]?=w.heap[q]?:=fun q hq=>by
  show (w.heap.push o)[q]?=_
  rw [Array.getElem?_push_lt hq]; simp [hq]
 refine ⟨⟨⟨fun b p hb=>?_,hi.inj,hi.dom,fun b q x hb=>?_,hi.lim,hi.st⟩,Mp.le_refl _,Nat.le_refl _,by simp,fun q hq _=>old q hq,fun _ _ h=>h,rfl,rfl⟩,World.alloc_heap_new w o,fun hl=>?_⟩
 ·obtain ⟨q,x,h1,h2⟩:=hi.obj b p hb
  exact ⟨q,x,h1,by rwa [old q (hi.rng _ _ _ h1)]⟩
 ·have:=hi.rng b q x hb; simp; omega
 ·obtain ⟨b,p,x,_,_,h2⟩:=hl
  have:=hi.rng _ _ _ h2; omega
theorem zjl {ao:AO} {v0:Nat→AV} {h:H} {n:Nat} {v:AV} {h':H} {n':Nat} (e:(alloc ao h n fun h' m=>finK (v0 n) h' m)=.fin v h' n'):n < top∧fitO ao=true∧v=v0 n∧h'=setO h n ao∧n'=n + 1:=by
 obtain ⟨h1,h2,h3⟩:=zdy e (by simp)
 injection h3 with e1 e2 e3
 exact ⟨h1,h2,e1.symm,e2.symm,e3.symm⟩
def frz (fz:Nat × Nat) (m:Nat):Nat × Nat:=if fz.1 == fz.2 then (m,m + 1) else (min fz.1 m,max fz.2 (m + 1))
theorem frz_ok {fz:Nat × Nat} {m:Nat} (h:fzOk fz m):fzOk (frz fz m) m:=by
 unfold frz
 rcases h with h | h
 ·simp only [h,beq_self_eq_true,if_true]; exact .inr (Nat.le_refl _)
 ·split
  ·exact .inr (Nat.le_refl _)
  ·exact .inr (by simp only; omega)
theorem z1d {w:World} {r:Nat} {c:Array Value} {e:TypeId} {fz:Nat × Nat} (hw:w.heap[r]?=some (.cells c e fz)):
  (w.freeze ⟨r,c.size,none⟩ 1).heap[r]?=some (.cells c e (frz fz c.size))∧(∀ q,q≠r→(w.freeze ⟨r,c.size,none⟩ 1).heap[q]?=w.heap[q]?)∧(w.freeze ⟨r,c.size,none⟩ 1).heap.size=w.heap.size:=by
 have hw':(w.freeze ⟨r,c.size,none⟩ 1).heap=w.heap.modify r fun
   | .cells d elem (lo,hi)=>.cells d elem (if lo == hi then (c.size,c.size + 1) else (min lo c.size,max hi (c.size + 1)))
   | o=>o:=rfl
 refine ⟨?_,fun q hq=>?_,by rw [hw']; simp⟩
 ·rw [hw',Array.getElem?_modify,if_pos rfl,hw]; rfl
 ·rw [hw',Array.getElem?_modify,if_neg (fun e=>hq e.symm)]
theorem z1g {ρ:Mp} {g:Nat × Nat} {ao:AO} {c:Array Value} {e:TypeId} {fz fz':Nat × Nat} (hr:relO ρ g ao (some (.cells c e fz)) 0) (hf:fzOk fz c.size→fzOk fz' c.size):relO ρ g ao (some (.cells c e fz')) 0:=by
 have lt:∀ {i:Nat} {v:Value},c[0 + i]?=some v→0 + i < c.size:=fun h=>getElem?_lt h
 cases ao with
 | cells n es t=>
  obtain ⟨⟨h1,h2⟩,h3,h4⟩:=hr
  refine ⟨⟨h1,hf h2⟩,h3,fun i hi=>?_⟩
  obtain ⟨v,g1,g2,g3,_⟩:=h4 i hi
  exact ⟨v,g1,g2,g3,(hf h2).at_ (lt g1)⟩
 | bytes n x=>
  obtain ⟨⟨h1,h2⟩,h3,l,h4,h5⟩:=hr
  exact ⟨⟨h1,hf h2⟩,h3,l,h4,fun i hi=>⟨(h5 i hi).1,(hf h2).at_ (lt (h5 i hi).1)⟩⟩
 | map l=>exact absurd hr id
 | var ty n t=>
  obtain ⟨h1,h2,h3,h4⟩:=hr
  refine ⟨h1,hf h2,h3,fun i hi=>?_⟩
  obtain ⟨v,g1,g2,g3,_⟩:=h4 i hi
  exact ⟨v,g1,g2,g3,(hf h2).at_ (lt g1)⟩
 | rowb ty m n x=>
  obtain ⟨h0,⟨h1,h2⟩,h3,l,h4,h5⟩:=hr
  exact ⟨h0,⟨h1,hf h2⟩,h3,l,h4,fun i hi=>⟨(h5 i hi).1,(hf h2).at_ (lt (h5 i hi).1)⟩⟩
theorem Goes.touch {ρ σ:Mp} {h h':H} {n n':Nat} {w w1 w2:World} (hG:Goes ρ h n w σ h' n' w1) {r:Nat} (hkg:KG≤w.heap.size) (hr:w.heap.size≤r) (hl:¬ live σ h' r) (hq:∀ q,q≠r→w2.heap[q]?=w1.heap[q]?) (hs:w2.heap.size=w1.heap.size)
  (hio:w2.os=w1.os∧w2.output=w1.output):Goes ρ h n w σ h' n' w2:=by
 have hi:=hG.inv
 refine ⟨⟨fun b o hb=>?_,hi.inj,hi.dom,fun b q x hb=>by rw [hs]; exact hi.rng b q x hb,hi.lim,hi.st⟩,hG.le,hG.next,by rw [hs]; exact hG.size,fun q hq1 hq2=>?_,hG.lives,by rw [hio.1,hio.2]; exact hG.io⟩
 ·obtain ⟨q,x,h1,h2⟩:=hi.obj b o hb
  refine ⟨q,x,h1,?_⟩
  rw [hq q fun e=>?_]
  ·exact h2
  ·subst e
   rcases Nat.lt_or_ge b KG with hk | hk
   ·have h3:=hi.st b hk
    rw [h1] at h3; cases h3; omega
   ·exact hl ⟨b,o,x,hk,hb,h1⟩
 ·rw [hq q (by omega)]; exact hG.keep q hq1 hq2
def dsAt (ops:List Oper) (i:Nat):List (Option Nat):=((ops.take i).map (·.dst)).reverse
theorem zpt {ops:List Oper} {i:Nat} (h:i≤ops.length):(dsAt ops i).length=i:=by simp [dsAt]; omega
theorem zlq {ops:List Oper} {i j:Nat} (h:i≤ops.length) (hj:j < i):(dsAt ops i)[i - 1 - j]?=(ops[j]?).map (·.dst):=by
 unfold dsAt
 rw [List.getElem?_reverse (by simp; omega)]
 simp only [List.length_map,List.length_take,List.getElem?_map]
 rw [show min i ops.length - 1 - (i - 1 - j)=j by omega,List.getElem?_take_of_lt hj]
theorem zyg {ops:Array Oper} {i:Nat} (h:i≤ops.size):DsOf ops i (dsAt ops.toList i):=
 ⟨zpt (by simpa using h),fun j hj=>by rw [zlq (by simpa using h) hj,Array.getElem?_toList]⟩
def zbw (tb:Tb) (ops:Array Oper) (c:Nat):Prop:=∃ o,ops[c]?=some o∧zbm tb o.op=0
def Win (tb:Tb) (ops:Array Oper) (q i:Nat):Prop:=q≤ops.size∧(∀ c,c < q→zbw tb ops c→zbg (befs ops.toList) c i=false)∧(∀ c,q≤c→zbw tb ops c→zbg (befs ops.toList) i c=false)
structure Facts (tb:Tb) (nt:Nat) (g:List Nat) (ops:Array Oper) (call:zbc) (e0:Env) (V:Nat→AV) (S:Nat→H × Nat):Prop where
 gd:∀ i o,ops[i]?=some o→∃ gd,zc3 (dsAt ops.toList i) i o.guard=some gd∧zd8 nt o.dst=true∧
  (za4 (LSof V i) gd=true→(zbm tb o.op=0→zbb (dsAt ops.toList i) tb o.op call (LSof V i) e0 (S i).1 (S i).2 finK=.fin (V i) (S (i + 1)).1 (S (i + 1)).2)∧
   (zbm tb o.op≠0→S (i + 1)=S i∧∀ q,Win tb ops q i→∀ k',zbb (dsAt ops.toList i) tb o.op call (LSof V i) e0 (S q).1 (S q).2 k'=k' (V i) (S q).1 (S q).2))∧
  (za4 (LSof V i) gd=false→V i=.undef∧S (i + 1)=S i)
 kept:∀ i o,ops[i]?=some o→∀ x,x ∈ o.op.operands→Kept g (dsAt ops.toList i) x
 draw:zif tb ops.toList=true
 mono:zih tb ops.toList≠[]→∀ i,i < ops.size→(S i).2≤(S (i + 1)).2
def flts (tb:Tb) (ops:Array Oper):List Nat:=zih tb ops.toList
def Sel (ops:Array Oper) (i:Nat):Nat→Bool:=fun f=>Nat.beq f i || zbg (befs ops.toList) i f
structure Pend (tb:Tb) (ops:Array Oper) (S:Nat→H × Nat) (w0:World) (ρ:Mp) (q:Nat) (listed:Array Bool) (w:World) (l:List PE) (p:PE):Prop where
 at_:q≤p.f
 nm:p.nm=(S p.f).2
 top:p.nm < top
 rw0:w0.heap.size≤p.r
 fl:p.f ∈ flts tb ops
 done:listed.getD p.f false=true
 row:∀ x,w.heap[p.r]?=some x→∃ c e fz,x=.cells c e fz
 blk:∃ ao o_,w.heap[p.r]?=some o_∧¬ live ρ (S q).1 p.r∧relO (ρ.X l (Sel ops p.f)) p.y ao (some o_) 0∧S (p.f + 1)=(setO (S p.f).1 p.nm ao,p.nm + 1)
structure Pends (tb:Tb) (ops:Array Oper) (S:Nat→H × Nat) (w0:World) (ρ:Mp) (q:Nat) (listed:Array Bool) (w:World) (l:List PE):Prop where
 each:∀ p ∈ l,Pend tb ops S w0 ρ q listed w l p
 one:∀ p ∈ l,∀ p' ∈ l,p.f=p'.f→p=p'
 rs:∀ p ∈ l,∀ p' ∈ l,p.r=p'.r→p=p'
 all:∀ c,q≤c→zbw tb ops c→listed.getD c false=true→c ∈ flts tb ops∧((∃ p ∈ l,p.f=c)∨S (c + 1)=S c)
structure JJ (tb:Tb) (ops:Array Oper) (V:Nat→AV) (S:Nat→H × Nat) (a0:Act) (ρ0:Mp) (h0:H) (n0:Nat) (w0:World) (listed:Array Bool) (a:Act) (w:World):Prop where
 size:listed.size=ops.size
 cl:∀ i,listed.getD i false=true→∀ j,zbg (befs ops.toList) i j=true→listed.getD j false=true
 tsz:a.tmps.size=a0.tmps.size
 df:a.defers=a0.defers
 rest:∀ t,(∀ i o,ops[i]?=some o→listed.getD i false=true→o.dst≠some t)→a.tmps.getD t undef=a0.tmps.getD t undef
 st:∃ q ρ l,q≤ops.size∧(∀ c,c < q→zbw tb ops c→listed.getD c false=true)∧Pends tb ops S w0 ρ q listed w l∧
  (∀ c,q≤c→zbw tb ops c→listed.getD c false=true→∃ c',q≤c'∧c' < c∧zbw tb ops c'∧listed.getD c' false=false)∧
  Goes ρ0 h0 n0 w0 ρ (S q).1 (S q).2 w∧∀ i o d,ops[i]?=some o→listed.getD i false=true→o.dst=some d→rel (ρ.X l (Sel ops i)) (V i) (a.tmps.getD d undef)
theorem zg7 {l:Array Bool} {i j:Nat} (hi:i < l.size):(l.setIfInBounds i true).getD j false=(if j=i then true else l.getD j false):=by
 by_cases e:j=i
 ·subst e
  rw [if_pos rfl,Array.getD_eq_getD_getElem?,Array.getElem?_setIfInBounds_self_of_lt hi]; rfl
 ·rw [if_neg e,Array.getD_eq_getD_getElem?,Array.getElem?_setIfInBounds_ne (fun h=>e h.symm),← Array.getD_eq_getD_getElem?]
def cntU (l:Array Bool):Nat→Nat
 | 0=>0
 | k + 1=>cntU l k + (if l.getD k false then 0 else 1)
theorem zse {l:Array Bool} {i:Nat} (hi:i < l.size):∀ k,k≤i→cntU (l.setIfInBounds i true) k=cntU l k
 | 0,_=>rfl
 | k + 1,h=>by
  have e:(l.setIfInBounds i true).getD k false=l.getD k false:=by rw [zg7 hi]; exact if_neg (by omega)
  simp only [cntU]
  rw [zse hi k (by omega),e]
theorem zpq {l:Array Bool} {i:Nat} (hi:i < l.size) (hf:l.getD i false=false):∀ k,i < k→cntU l k=cntU (l.setIfInBounds i true) k + 1
 | 0,h=>by omega
 | k + 1,h=>by
  simp only [cntU]
  by_cases e:i=k
  ·subst e
   rw [zse hi i (Nat.le_refl _),zg7 hi,if_pos rfl,hf]; rfl
  ·have e':(l.setIfInBounds i true).getD k false=l.getD k false:=by rw [zg7 hi]; exact if_neg (fun h=>e h.symm)
   rw [zpq hi hf k (by omega),e']; omega
theorem zmp {l:Array Bool}:∀ k,cntU l k=0→∀ j,j < k→l.getD j false=true
 | 0,_,j,h=>by omega
 | k + 1,hz,j,h=>by
  simp only [cntU] at hz
  cases hk:l.getD k false with
  | true=>
   rw [hk] at hz
   by_cases e:j=k
   ·rw [e]; exact hk
   ·exact zmp k (by simpa using hz) j (by omega)
  | false=>rw [hk] at hz; simp at hz
section
variable {P:Program} {tb:Tb} {nt:Nat} {g:List Nat} {ops:Array Oper} {call:zbc} {e0:Env} {V:Nat→AV} {S:Nat→H × Nat} {a0:Act} {ρ0:Mp} {h0:H} {n0:Nat} {w0:World}
theorem Facts.opOk (hF:Facts tb nt g ops call e0 V S) {i:Nat} {o:Oper} (ho:ops[i]?=some o):zf2 (befs ops.toList) ops.toList i o=true:=by
 have:=hF.draw
 simp only [zif,Bool.and_eq_true] at this
 have:=zge this.1.1 i o (by rw [Array.getElem?_toList]; exact ho)
 rwa [Nat.zero_add] at this
theorem Facts.edge (hF:Facts tb nt g ops call e0 V S) {i:Nat} {o:Oper} (ho:ops[i]?=some o) {e:Edge} (he:e ∈ o.after) (hb:Region.binds .any e=true):e.on < i:=by
 have:=hF.opOk ho
 simp only [zf2,Bool.and_eq_true,List.all_eq_true] at this
 have:=this.1.1.1 e (by simpa using he)
 rw [hb] at this
 simpa [Nat.blt_eq] using this
theorem Facts.read (hF:Facts tb nt g ops call e0 V S) {i:Nat} {o:Oper} (ho:ops[i]?=some o) {t:Nat} (ht:Operand.tmp t ∈ o.op.operands) {j:Nat} {p:Oper} (hp:ops[j]?=some p) (hd:p.dst=some t):
  (j < i→zbg (befs ops.toList) i j=true)∧(i < j→zbg (befs ops.toList) j i=true):=by
 have:=hF.opOk ho
 simp only [zf2,Bool.and_eq_true,List.all_eq_true] at this
 have h1:=this.1.1.2 t (zk1 (by simpa using ht))
 have:=zjz h1 j p (by rw [Array.getElem?_toList]; exact hp) hd
 rwa [Nat.zero_add] at this
theorem Facts.guard (hF:Facts tb nt g ops call e0 V S) {i:Nat} {o:Oper} (ho:ops[i]?=some o) {j:Nat} {b:Bool} (hg:o.guard=some (j,b)):zbg (befs ops.toList) i j=true:=by
 have:=hF.opOk ho
 simp only [zf2,Bool.and_eq_true] at this
 have h1:=this.1.2
 rw [hg] at h1
 exact h1
theorem mem_effs' {c:Nat}:c ∈ effs (ops.toList.map fun o=>zbm tb o.op) 0 ↔ zbw tb ops c:=by
 rw [mem_effs,Nat.sub_zero,List.getElem?_map,Array.getElem?_toList]
 constructor
 ·rintro ⟨_,h⟩
  cases ho:ops[c]? with
  | none=>rw [ho] at h; cases h
  | some o=>rw [ho] at h; exact ⟨o,ho,Option.some.inj h⟩
 ·rintro ⟨o,h1,h2⟩
  exact ⟨Nat.zero_le _,by rw [h1]; simp [h2]⟩
theorem Facts.chain (hF:Facts tb nt g ops call e0 V S) {c d:Nat} (hc:zbw tb ops c) (hd:zbw tb ops d) (hlt:c < d):zbg (befs ops.toList) d c=true∨d ∈ flts tb ops:=
 zom (mem_effs'.2 hc) (mem_effs'.2 hd) hlt
theorem zda {f:Nat} (hf:f ∈ flts tb ops):zbw tb ops f:=mem_effs'.1 (zq6 hf)
theorem Facts.waits (hF:Facts tb nt g ops call e0 V S) {j f c:Nat} (hj:j < ops.size) (hn:j ∉ flts tb ops) (hf:f ∈ flts tb ops) (ha:zbg (befs ops.toList) j f=true) (hc:zbw tb ops c) (hlt:c < f):zbg (befs ops.toList) j c=true:=by
 have:=hF.draw
 simp only [zif,Bool.and_eq_true] at this
 exact zjm this.1.2.2 j (by simpa using hj) hn f hf ha c (mem_effs'.2 hc) hlt
theorem Facts.kind (hF:Facts tb nt g ops call e0 V S) {f:Nat} {o:Oper} (hf:f ∈ flts tb ops) (ho:ops[f]?=some o):zjn tb o.op=true∧o.guard=none:=by
 have:=hF.draw
 simp only [zif,Bool.and_eq_true,List.all_eq_true] at this
 have key:=this.1.2.1 f hf
 unfold zxm at key
 rw [zc5,Array.getElem?_toList,ho] at key
 simp only [Bool.and_eq_true,Option.isNone_iff_eq_none] at key
 exact key.1
theorem Facts.mark (hF:Facts tb nt g ops call e0 V S) {f:Nat} {o:Oper} {s d:TypeId} {x:Operand} (hf:f ∈ flts tb ops) (ho:ops[f]?=some o) (hop:o.op=.convert s d x):
  ∃ t f0 o0 t' a os,x=.tmp t∧f0 < f∧zbw tb ops f0∧ops[f0]?=some o0∧o0.dst=some t∧o0.op=.buildSlice t' a os∧∀ c,zbw tb ops c→c≤f0∨f≤c:=by
 have:=hF.draw
 simp only [zif,Bool.and_eq_true,List.all_eq_true] at this
 have key:=this.1.2.1 f hf
 unfold zxm at key
 rw [zc5,Array.getElem?_toList,ho] at key
 simp only [Bool.and_eq_true] at key
 have key:=key.2
 rw [hop] at key
 cases x with
 | tmp t=>
  simp only [mkOk,List.any_eq_true,Bool.and_eq_true,List.all_eq_true,Bool.or_eq_true] at key
  obtain ⟨f0,h1,⟨h2,h3⟩,h4⟩:=key
  have he:zbw tb ops f0:=mem_effs'.1 h1
  unfold bslAt at h4
  rw [zc5,Array.getElem?_toList] at h4
  cases ho0:ops[f0]? with
  | none=>rw [ho0] at h4; cases h4
  | some o0=>
   rw [ho0] at h4
   simp only [Bool.and_eq_true,beq_iff_eq] at h4
   obtain ⟨h5,h6⟩:=h4
   cases hop0:o0.op with
   | buildSlice t' a os=>
    refine ⟨t,f0,o0,t',a,os,rfl,by simpa [Nat.blt_eq] using h2,he,ho0,h5,hop0,fun c hc=>?_⟩
    rcases h3 c (mem_effs'.2 hc) with h | h
    ·exact .inl (Nat.le_of_ble_eq_true h)
    ·exact .inr (Nat.le_of_ble_eq_true h)
   | _=>rw [hop0] at h6; exact absurd (show false=true from h6) (by decide)
 | _=>exact absurd (show false=true from key) (by decide)
theorem z1a {ds:List (Option Nat)} {ls:List AV} {e:Env} {h h':H} {n n':Nat} {v:AV} {t:TypeId} {a:Nat} {os:Array (Nat × Operand)} (hr:zbb ds tb (.buildSlice t a os) call ls e h n finK=.fin v h' n'):v=.sl n 0 a a true∧n'=n + 1:=by
 have hne:(RR.fin v h' n')≠.fail:=by simp
 simp only [zbb] at hr
 cases hu:und tb t with
 | slice et=>
  cases hl:zcw ds os.toList with
  | none=>rw [hu,hl] at hr; exact absurd hr.symm hne
  | some ps=>
   rw [hu,hl] at hr
   simp only at hr
   cases hz:zb4 tb et with
   | none=>rw [hz] at hr; exact absurd hr.symm hne
   | some z=>
    rw [hz] at hr
    simp only at hr
    cases h8:isU8 tb et with
    | true=>
     rw [h8,cond_true] at hr
     have hr':zf8 a a (mapO (.bytes a) (zkn ls e a ps 0)) h n finK=.fin v h' n':=hr
     cases hb:zkn ls e a ps 0 with
     | none=>rw [hb] at hr'; exact absurd hr'.symm hne
     | some r=>
      rw [hb] at hr'
      simp only [mapO,zf8] at hr'
      obtain ⟨_,_,k1,_,k2⟩:=zjl (v0:=fun n=>.sl n 0 a a true) hr'
      exact ⟨k1,k2⟩
    | false=>
     rw [h8,cond_false] at hr
     have hr':zf8 a a (mapO (.cells (a * size tb et) (size tb et)) (zic ls e (size tb et) a ps (zfw z (size tb et) a))) h n finK=.fin v h' n':=hr
     cases hb:zic ls e (size tb et) a ps (zfw z (size tb et) a) with
     | none=>rw [hb] at hr'; exact absurd hr'.symm hne
     | some r=>
      rw [hb] at hr'
      simp only [mapO,zf8] at hr'
      obtain ⟨_,_,k1,_,k2⟩:=zjl (v0:=fun n=>.sl n 0 a a true) hr'
      exact ⟨k1,k2⟩
 | _=>rw [hu] at hr; revert hr; cases zcw ds os.toList<;>intro hr<;>exact absurd hr.symm hne
theorem Facts.trans (hF:Facts tb nt g ops call e0 V S) {i j k:Nat} (h1:zbg (befs ops.toList) i j=true) (h2:zbg (befs ops.toList) j k=true):zbg (befs ops.toList) i k=true:=
 zn1 (fun i o ho e he hb=>hF.edge (i:=i) (o:=o) (by rw [← Array.getElem?_toList]; exact ho) (by simpa using he) hb) i j k h1 h2
theorem Facts.rise (hF:Facts tb nt g ops call e0 V S) {f:Nat} (hf:f ∈ flts tb ops):∀ (k i:Nat),i + k≤ops.size→(S i).2≤(S (i + k)).2
 | 0,_,_=>Nat.le_refl _
 | k + 1,i,h=>Nat.le_trans (Facts.rise hF hf k i (by omega)) (hF.mono (fun e=>by unfold Go.VE.flts at hf; rw [e] at hf; cases hf) (i + k) (by omega))
theorem zph (hF:Facts tb nt g ops call e0 V S):∀ {i j:Nat},zbg (befs ops.toList) i j=true→j < i:=by
 intro i
 induction i using Nat.strongRecOn with
 | _ i ih=>
  intro j h
  have hi:∃ o,ops[i]?=some o:=by
   cases ho:ops[i]? with
   | some o=>exact ⟨o,rfl⟩
   | none=>
    exfalso
    obtain ⟨g1,_,_⟩:=zdz ops.toList []
    rw [← Array.getElem?_toList] at ho
    unfold zbg befs at h
    rw [zc5,List.getElem?_eq_none (by rw [g1]; simpa using ho),Option.getD_none,Nat.zero_testBit] at h
    cases h
  obtain ⟨o,ho⟩:=hi
  obtain ⟨e,h1,h2,h3⟩:=zht (by rw [Array.getElem?_toList]; exact ho) h
  have hlt:=hF.edge ho (by simpa using h1) h2
  rcases h3 with rfl | h3
  ·exact hlt
  ·have:=ih e.on hlt h3; omega
theorem zr0 (hF:Facts tb nt g ops call e0 V S) {i j f:Nat} (h:zbg (befs ops.toList) j i=true) (hs:Sel ops i f=true):Sel ops j f=true:=by
 unfold Sel at hs ⊢
 rw [Bool.or_eq_true] at hs ⊢
 rcases hs with hs | hs
 ·rw [Nat.eq_of_beq_eq_true hs]; exact .inr h
 ·exact .inr (hF.trans h hs)
theorem Facts.once (hF:Facts tb nt g ops call e0 V S) {i j:Nat} {o p:Oper} {d:Nat} (ho:ops[i]?=some o) (hp:ops[j]?=some p) (h1:o.dst=some d) (h2:p.dst=some d):i=j:=by
 have:=hF.draw
 simp only [zif,Bool.and_eq_true] at this
 have hn:=zng this.2
 rw [← Array.getElem?_toList] at ho hp
 generalize ops.toList=l at ho hp hn
 clear this hF
 induction l generalizing i j with
 | nil=>simp at ho
 | cons x l ih=>
  have tail:(l.filterMap (·.dst)).Nodup:=by
   rw [List.filterMap_cons] at hn
   split at hn
   ·exact hn
   ·exact (List.nodup_cons.1 hn).2
  have mem:∀ (k:Nat) (q:Oper),l[k]?=some q→q.dst=some d→d ∈ l.filterMap (·.dst):=fun k q hq hd=>List.mem_filterMap.2 ⟨q,List.mem_of_getElem? hq,hd⟩
  cases i with
  | zero=>
   cases ho
   cases j with
   | zero=>rfl
   | succ j=>
    rw [List.filterMap_cons,h1] at hn
    exact absurd (mem j p hp h2) (List.nodup_cons.1 hn).1
  | succ i=>
   cases j with
   | zero=>
    cases hp
    rw [List.filterMap_cons,h2] at hn
    exact absurd (mem i o ho h1) (List.nodup_cons.1 hn).1
   | succ j=>rw [ih ho hp tail]
theorem Facts.same (hF:Facts tb nt g ops call e0 V S):∀ (k q:Nat),q + k≤ops.size→(∀ c,q≤c→c < q + k→¬ zbw tb ops c)→S (q + k)=S q
 | 0,_,_,_=>rfl
 | k + 1,q,hs,hno=>by
  have h1:=Facts.same hF k q (by omega) (fun c h1 h2=>hno c h1 (by omega))
  have hlt:q + k < ops.size:=by omega
  obtain ⟨gd,_,_,h2,h3⟩:=hF.gd (q + k) ops[q + k] (by simp [hlt])
  have hcls:zbm tb ops[q + k].op≠0:=fun e=>hno (q + k) (by omega) (by omega) ⟨_,by simp [hlt],e⟩
  rw [← h1]
  cases hw:za4 (LSof V (q + k)) gd with
  | true=>exact ((h2 hw).2 hcls).1
  | false=>exact (h3 hw).2
theorem JJ.before {listed:Array Bool} {a:Act} {w:World} (hJ:JJ tb ops V S a0 ρ0 h0 n0 w0 listed a w) {i:Nat} (hr:i ∈ Region.ready .any ops listed):∀ j,zbg (befs ops.toList) i j=true→listed.getD j false=true:=by
 obtain ⟨_,o,ho,hall⟩:=mem_ready.1 hr
 intro j hj
 obtain ⟨e,h1,h2,h3⟩:=zht (by rw [Array.getElem?_toList]; exact ho) hj
 have h4:=hall e (by simpa using h1) h2
 rcases h3 with rfl | h3
 ·exact h4
 ·exact hJ.cl _ h4 j h3
end
end
end Go.VE
