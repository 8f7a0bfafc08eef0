/- The evaluator, part 10: definitions and their laws, over any program. No condition. -/
import Derived.Orders
import Derived.Test.YtjpelmgihpmohaaGreatDoorVE9
set_option linter.all false
namespace Go.VE
noncomputable section
open Go
def Post (ρ:Mp) (h:H) (n:Nat) (w:World) (k:K) (rr:RR) (rv:Value) (w':World):Prop:=∃ v h' n' σ,k v h' n'=rr∧Goes ρ h n w σ h' n' w'∧rel σ v rv
def zu9 (ρ:Mp) (h:H) (n:Nat) (w:World) (k:K) (rr:RR) (ex:Ending) (w':World):Prop:=∃ rv,ex=.returned rv∧Post ρ h n w k rr rv w'
def zgx (P : Program) (f : Nat) : Prop := ∃ fn, P.funcs[f]? = some fn ∧ (fn.name == "runtime.NumGoroutine") = false ∧ fn.body.isNone = false
def CallLaw (P:Program) (f:Nat) (args:List AV) (h:H) (n:Nat) (k:K) (rr:RR):Prop:=
 (zgx P f∧∀ (ρ:Mp) (w:World) (as:List Value),Inv ρ h n w→relS ρ args as→Calls P f as.toArray w (zu9 ρ h n w k rr))∨
 (∀ (ρ:Mp) (w:World) (as:List Value),Inv ρ h n w→relS ρ args as→∃ rv w',(callFunc f as.toArray).run P w=.ok (.value rv) w'∧Post ρ h n w k rr rv w')
def zem (P:Program) (call:zbc):Prop:=∀ (f:Nat) (args:List AV) (h:H) (n:Nat) (k:K) (rr:RR),call f args h n k=rr→rr≠.fail→CallLaw P f args h n k rr
def Fits (ρ:Mp) (ds:List (Option Nat)) (ls:List AV) (e:Env) (a:Act) (x:Operand):Prop:=∀ s,lowS ds x=some s→rel ρ (s ls e) (a.eval x)
def zel (ρ:Mp) (h:H) (n:Nat) (w:World) (k:K) (rr:RR) (a:Act) (dst:Option Tmp) (a':Act) (w':World):Prop:=∃ rv,a'=a.put dst rv∧Post ρ h n w k rr rv w'
def OpOk (P:Program) (tb:Tb) (o:Oper):Prop:=∀ (ds:List (Option Nat)) (ls:List AV) (e:Env) (a:Act) (ρ:Mp) (h:H) (n:Nat) (w:World) (call:zbc) (k:K) (rr:RR) (Q:Exit→Act→World→Prop),
 zem P call→(∀ x,x ∈ o.op.operands→Fits ρ ds ls e a x)→Inv ρ h n w→zbb ds tb o.op call ls e h n k=rr→rr≠.fail→o.wp P a w (zel ρ h n w k rr a o.dst) Q
def zle (P:Program) (tb:Tb) (o:Oper):Prop:=∀ (ds:List (Option Nat)) (ls:List AV) (e:Env) (a:Act) (ρ:Mp) (n:Nat) (w:World) (call:zbc) (h:H) (v:AV) (h':H) (n':Nat),
 (∀ x,x ∈ o.op.operands→Fits ρ ds ls e a x)→(∀ i,i < KG→ρ i=some (i,0))→zbb ds tb o.op call ls e h n finK=.fin v h' n'→
 (∃ ao o_ y rv,n < top∧h'=setO h n ao∧n'=n + 1∧relO ρ y ao (some o_) 0∧(∀ σ:Mp,σ n=some (w.heap.size,0)→σ.g n=y→rel σ v rv)∧(execOp a.eval o).run P w=.ok (.value rv) (w.alloc o_)∧∃ c e fz,o_=.cells c e fz)∨
 (∃ rv,h'=h∧n'=n∧rel ρ v rv∧(execOp a.eval o).run P w=.ok (.value rv) w)∨
 (∃ s d x b off len cap ex r z rv,o.op=.convert s d x∧(∃ u,lowS ds x=some u∧u ls e=v)∧v=.sl b off len cap ex∧h'=h∧n'=n∧rel ρ v rv∧ρ b=some (r,z)∧
  ∀ c0 et fz,w.heap[r]?=some (.cells c0 et fz)→(execOp a.eval o).run P w=.ok (.value rv) (w.freeze ⟨r,c0.size,none⟩ 1))
def zkc (P:Program) (tb:Tb) (o:Oper):Prop:=OpOk P tb o∧(zjn tb o.op=true→zle P tb o)
theorem zc5 {α:Type}:∀ (n:Nat) (l:List α),nthL n l=l[n]?
 | _,[]=>by simp [nthL]
 | 0,_ :: _=>by simp [nthL]
 | n + 1,_ :: l=>by simp [nthL,zc5 n l]
theorem ztj:∀ (n:Nat) (l:List AV),nthD n l=(l[n]?).getD .undef:=by
 intro n l
 induction l generalizing n with
 | nil=>cases n<;>rfl
 | cons a l ih=>cases n with
  | zero=>rfl
  | succ n=>rw [List.getElem?_cons_succ,← ih n]; rfl
theorem zdw (t:Nat):∀ (ds:List (Option Nat)) (k:Nat),zc0 t ds (k + 1)=(zc0 t ds k).map (· + 1)
 | [],_=>rfl
 | some d :: l,k=>by
  simp only [zc0]
  cases Nat.beq d t
  ·simpa using zdw t l (k + 1)
  ·rfl
 | none :: l,k=>by simp only [zc0]; exact zdw t l (k + 1)
def FitL (ρ:Mp) (ds:List (Option Nat)) (ls:List AV) (a:Act):Prop:=∀ t p,zc0 t ds 0=some p→rel ρ (nthD p ls) (a.tmps.getD t undef)
structure FitE (nt:Nat) (g:List Nat) (ρ:Mp) (e:Env) (a:Act):Prop where
 slot:∀ t,memN t g=true→rel ρ (eAt (t + 1) e) (a.tmps.getD t undef)
 size:nt≤a.tmps.size
 st:∀ i,i < KG→ρ i=some (i,0)
theorem FitL.mono {ρ σ:Mp} (h:ρ.le σ) {ds:List (Option Nat)} {ls:List AV} {a:Act} (hf:FitL ρ ds ls a):FitL σ ds ls a:=fun t p ht=>zba h _ _ (hf t p ht)
theorem FitE.mono {ρ σ:Mp} (h:ρ.le σ) {nt:Nat} {g:List Nat} {e:Env} {a:Act} (hf:FitE nt g ρ e a):FitE nt g σ e a:=⟨fun t ht=>zba h _ _ (hf.slot t ht),hf.size,fun i hi=>h.at_ _ _ (hf.st i hi)⟩
theorem FitL.nil (ρ:Mp) (a:Act):FitL ρ [] [] a:=fun _ _ h=>by cases h
theorem zl7 {a:Act} {dst:Option Tmp} {v:Value} {t:Nat} (h:∀ d,dst=some d→d < a.tmps.size):(a.put dst v).tmps.getD t undef=if dst=some t then v else a.tmps.getD t undef:=by
 cases dst with
 | none=>simp [Act.put]
 | some d=>
  have hd:=h d rfl
  by_cases e:d=t
  ·subst e
   simp [Act.put,hd]
  ·have hne:¬ (some d=some t):=fun h=>e (Option.some.inj h)
   rw [if_neg hne]
   simp only [Act.put,Array.getD_eq_getD_getElem?,Array.getElem?_setIfInBounds_ne e]
theorem zqj {a:Act} {dst:Option Tmp} {v:Value}:(a.put dst v).tmps.size=a.tmps.size:=by cases dst<;>simp [Act.put]
theorem FitL.put {ρ σ:Mp} (h:ρ.le σ) {ds:List (Option Nat)} {ls:List AV} {a:Act} {dst:Option Nat} {v:AV} {rv:Value} (hf:FitL ρ ds ls a) (hd:∀ d,dst=some d→d < a.tmps.size) (hv:rel σ v rv):
  FitL σ (dst :: ds) (v :: ls) (a.put dst rv):=by
 intro t p ht
 rw [zl7 hd]
 cases dst with
 | none=>
  simp only [zc0] at ht
  rw [zdw] at ht
  cases hp:zc0 t ds 0 with
  | none=>rw [hp] at ht; cases ht
  | some q=>
   rw [hp] at ht; cases ht
   rw [if_neg (by simp)]
   exact zba h _ _ (hf t q hp)
 | some d=>
  simp only [zc0] at ht
  by_cases e:d=t
  ·subst e
   rw [Nat.beq_refl] at ht; cases ht
   rw [if_pos rfl]
   exact hv
  ·have:Nat.beq d t=false:=by
    cases hb:Nat.beq d t
    ·rfl
    ·exact absurd (Nat.eq_of_beq_eq_true hb) e
   rw [this,cond_false,zdw] at ht
   cases hp:zc0 t ds 0 with
   | none=>rw [hp] at ht; cases ht
   | some q=>
    rw [hp] at ht; cases ht
    rw [if_neg (fun h=>e (Option.some.inj h))]
    exact zba h _ _ (hf t q hp)
end
end Go.VE
namespace Go.VE
noncomputable section
open Go
structure TbOk (P:Program) (tb:Tb):Prop where
 info:∀ t i,tb.types.get (t + 1)=some i→P.info? t=some i
 list:∀ t,tb.list[t]?=tb.types.get (t + 1)
 prom:∀ t m f,(t,m,f) ∈ tb.prom→∀ (h:Value) (w:World),(method (P.types.size + Made.depth) t (.agg #[h]) m).run P w=.ok (f,h) w
 eqf:∀ t,tb.eqf t=true→P.stoodInHeld t=false∧P.eqGuardType P.depth t=false
theorem TbOk.und {P:Program} {tb:Tb} (h:TbOk P tb) {t:TypeId} {d:TypeDesc} (hu:und tb t=d) (hd:d≠.invalid):P.underlying t=some d∧∃ i,tb.types.get (t + 1)=some i∧P.info? t=some i:=by
 unfold Go.VE.und at hu
 cases hg:tb.types.get (t + 1) with
 | none=>rw [hg] at hu; exact absurd hu.symm hd
 | some i=>
  rw [hg] at hu
  have hi:=h.info t i hg
  refine ⟨?_,i,rfl,hi⟩
  simp only [zj8] at hu
  unfold Program.underlying
  rw [hi]
  obtain ⟨desc,_⟩:=i
  cases desc<;>simp only at hu ⊢<;>first | rw [hu] | skip
  rename_i nm u
  cases hj:tb.types.get (u + 1) with
  | none=>rw [hj] at hu; exact absurd hu.symm hd
  | some j=>rw [hj] at hu; simp only at hu; rw [h.info u j hj,Option.map_some,hu]
theorem ztn {α:Type}:∀ (l:List α) (k:Nat) (t:T α) (j:Nat),1≤k→1≤j→k + l.length < 2 ^ 64→(T.ofL l k t).get j=if k≤j∧j < k + l.length then l[j - k]? else t.get j
 | [],k,t,j,_,_,_=>by simp only [T.ofL,List.length_nil]; rw [if_neg (by omega)]
 | a :: l,k,t,j,hk,hj,hl=>by
  simp only [List.length_cons] at hl ⊢
  simp only [T.ofL]
  rw [ztn l (k + 1) _ j (by omega) hj (by omega),T.get_put _ _ _ _ hk hj (by omega)]
  by_cases h1:k + 1≤j∧j < k + 1 + l.length
  ·rw [if_pos h1,if_pos (by omega),show j - k=(j - (k + 1)) + 1 by omega,List.getElem?_cons_succ]
  ·rw [if_neg h1]
   by_cases h2:j=k
   ·subst h2; rw [if_pos rfl,if_pos (by omega),Nat.sub_self]; rfl
   ·rw [if_neg h2,if_neg (by omega)]
theorem zp9 {α:Type} {l:List α} (hl:l.length < 2 ^ 63) (j:Nat):(T.ofL l 1 .nil).get (j + 1)=l[j]?:=by
 rw [ztn l 1 .nil (j + 1) (by omega) (by omega) (by omega)]
 by_cases h:j < l.length
 ·rw [if_pos (by omega)]; simp
 ·rw [if_neg (by omega),List.getElem?_eq_none (by omega)]
  rfl
theorem tbP_ok (P:Program) (hs:P.types.size < 2 ^ 63) {prom:List (Nat × String × Nat)} (hp:∀ t m f,(t,m,f) ∈ prom→∀ (h:Value) (w:World),(method (P.types.size + Made.depth) t (.agg #[h]) m).run P w=.ok (f,h) w):TbOk P (tbP P prom):=by
 refine ⟨fun t i h=>?_,fun t=>?_,hp,fun t h=>?_⟩
 ·have h':(T.ofL P.types.toList 1 .nil).get (t + 1)=some i:=h
  rw [zp9 (by simpa using hs),Array.getElem?_toList] at h'
  have hlt:t < P.types.size:=(Array.getElem?_eq_some_iff.1 h').1
  show Tables.info? _ t=some i
  unfold Tables.info?
  rw [if_pos hlt]; exact h'
 ·show P.types.toList[t]?=(T.ofL P.types.toList 1 .nil).get (t + 1)
  rw [zp9 (by simpa using hs)]
 ·have h':(!P.stoodInHeld t && !P.eqGuardType P.depth t)=true:=h
  simpa using h'
end
end Go.VE
namespace Go.VE
noncomputable section
open Go
mutual
theorem zez (ρ:Mp):∀ (v:Value) (a:AV),lowV v=some a→rel ρ a v
 | .bool b,a,h=>by simp only [lowV] at h; cases h; simp only [rel]
 | .int k n,a,h=>by
  simp only [lowV] at h
  obtain ⟨h1,h2⟩:=za3 h
  cases h2
  simp only [inI,Bool.and_eq_true,decide_eq_true_eq] at h1
  simp only [rel]
  exact ⟨k,n,rfl,rfl,rfl,h1.1,h1.2⟩
 | .string s,a,h=>by
  simp only [lowV] at h; cases h
  simp only [rel]
  exact ⟨s,rfl,Array.length_toList,rfl⟩
 | .pointer none,a,h=>by simp only [lowV] at h; cases h; simp only [rel]
 | .slice none 0 0,a,h=>by simp only [lowV] at h; cases h; simp only [rel]
 | .map none,a,h=>by simp only [lowV] at h; cases h; simp only [rel]
 | .nilFunc,a,h=>by simp only [lowV] at h; cases h; simp only [rel]
 | .nilIface,a,h=>by simp only [lowV] at h; cases h; simp only [rel]
 | .agg ⟨l⟩,a,h=>by
  simp only [lowV] at h
  cases hl:zl3 l with
  | none=>rw [hl] at h; cases h
  | some m=>
   rw [hl] at h
   obtain ⟨h1,h2⟩:=za3 h
   cases h2
   simp only [rel]
   exact ⟨⟨l⟩,rfl,zju ρ l m hl,h1⟩
 | .tuple ⟨l⟩,a,h=>by
  simp only [lowV] at h
  cases hl:zl3 l with
  | none=>rw [hl] at h; cases h
  | some m=>
   rw [hl] at h; cases h
   simp only [rel]
   exact ⟨⟨l⟩,rfl,zju ρ l m hl⟩
 | .iface t v,a,h=>by
  simp only [lowV] at h
  cases hv:lowV v with
  | none=>rw [hv] at h; cases h
  | some m=>
   rw [hv] at h; cases h
   simp only [rel]
   exact ⟨v,rfl,zez ρ v m hv⟩
 | .float ..,_,h | .complex ..,_,h | .chan ..,_,h | .pointer (some _),_,h | .slice (some _) _ _,_,h | .slice none (_ + 1) _,_,h | .slice none 0 (_ + 1),_,h
 | .map (some _),_,h | .func ..,_,h=>by simp [lowV] at h
theorem zju (ρ:Mp):∀ (l:List Value) (a:AV),zl3 l=some a→relL ρ a l
 | [],a,h=>by simp only [zl3] at h; cases h; simp only [relL]
 | v :: l,a,h=>by
  simp only [zl3] at h
  cases hv:lowV v with
  | none=>rw [hv] at h; cases h
  | some m=>
   cases hl:zl3 l with
   | none=>rw [hv,hl] at h; cases h
   | some k=>
    rw [hv,hl] at h; cases h
    simp only [relL]
    exact ⟨v,l,rfl,zez ρ v m hv,zju ρ l k hl⟩
end
theorem zjo {ρ:Mp} {ds:List (Option Nat)} {ls:List AV} {e:Env} {a:Act} (hst:∀ i,i < KG→ρ i=some (i,0)) {j:Nat} {s:Sx} (hs:lowS ds (.global j)=some s):rel ρ (s ls e) (a.eval (.global j)):=by
 simp only [lowS] at hs
 cases hb:Nat.blt j KG with
 | false=>rw [hb] at hs; cases hs
 | true=>
  rw [hb] at hs; cases hs
  rw [Nat.blt_eq] at hb
  show rel ρ (.ptr j 0) (.pointer (some ⟨j,0,none⟩))
  simp only [rel]
  exact ⟨j,0,hst j hb,rfl⟩
def Kept (g:List Nat) (ds:List (Option Nat)):Operand→Prop
 | .tmp t=>zc0 t ds 0=none→memN t g=true
 | _=>True
theorem zgk {ρ:Mp} {nt:Nat} {g:List Nat} {ds:List (Option Nat)} {ls:List AV} {e:Env} {a:Act} (hl:FitL ρ ds ls a) (he:FitE nt g ρ e a) {x:Operand} (hk:Kept g ds x):Fits ρ ds ls e a x:=by
 intro s hs
 cases x with
 | tmp t=>
  simp only [lowS] at hs; cases hs
  unfold lowT
  cases hp:zc0 t ds 0 with
  | some p=>exact hl t p hp
  | none=>exact he.slot t (hk hp)
 | const v=>
  simp only [lowS] at hs
  cases hv:lowV v with
  | none=>rw [hv] at hs; cases hs
  | some b=>rw [hv] at hs; cases hs; exact zez ρ v b hv
 | global j=>exact zjo he.st hs
 | func f=>
  cases hs
  show rel ρ (.func f .nl) (.func (.func f) #[] #[])
  simp only [rel]
  exact ⟨#[],rfl,by simp only [relL]⟩
theorem memN_iff {n:Nat}:∀ {l:List Nat},memN n l=true ↔ n ∈ l
 | []=>by simp [memN]
 | a :: l=>by
  unfold memN
  by_cases h:n=a
  ·subst h; rw [Nat.beq_refl,zb2]; simp
  ·have hb:Nat.beq n a=false:=by
    cases hb:Nat.beq n a
    ·rfl
    ·exact absurd (Nat.eq_of_beq_eq_true hb) h
   rw [hb,zbe,memN_iff (l:=l)]
   simp [h]
def Sub (a b:List Nat):Prop:=∀ t,memN t a=true→memN t b=true
theorem Sub.refl (a:List Nat):Sub a a:=fun _ h=>h
theorem Sub.trans {a b c:List Nat} (h:Sub a b) (h':Sub b c):Sub a c:=fun t ht=>h' t (h t ht)
theorem zlh (n:Nat) (l:List Nat):Sub l (addN n l):=fun t ht=>by
 unfold addN
 cases memN n l
 ·rw [cond_false,memN_iff]; exact List.mem_cons_of_mem _ (memN_iff.1 ht)
 ·exact ht
theorem zlg (n:Nat) (l:List Nat):memN n (addN n l)=true:=by
 unfold addN
 cases h:memN n l
 ·rw [cond_false,memN_iff]; exact List.mem_cons_self
 ·exact h
theorem zh5 (ds:List (Option Nat)) (x:Operand) (l:List Nat):Sub l (zgf ds x l):=by
 cases x<;>simp only [zgf]<;>try exact Sub.refl _
 split
 ·exact Sub.refl _
 ·exact zlh _ _
theorem ze5 {ds:List (Option Nat)} {x:Operand} {l g:List Nat} (h:Sub (zgf ds x l) g):Kept g ds x:=by
 cases x<;>try exact trivial
 intro hp
 simp only [zgf,hp] at h
 exact h _ (zlg _ _)
theorem zh4 (ds:List (Option Nat)):∀ (xs:List Operand) (l:List Nat),Sub l (zj0 ds xs l)
 | [],_=>Sub.refl _
 | x :: xs,l=>(zh5 ds x l).trans (zh4 ds xs _)
theorem ze4 {ds:List (Option Nat)} {g:List Nat}:∀ {xs:List Operand} {l:List Nat},Sub (zj0 ds xs l) g→∀ x,x ∈ xs→Kept g ds x
 | [],_,_,x,hx=>by cases hx
 | y :: ys,l,h,x,hx=>by
  rcases List.mem_cons.1 hx with rfl | hx
  ·exact ze5 ((zh4 ds ys _).trans h)
  ·exact ze4 (xs:=ys) h x hx
theorem zdk:∀ (ds:List (Option Nat)) (ops:List Oper) (l:List Nat),Sub l (zeb ds ops l)
 | _,[],_=>Sub.refl _
 | ds,o :: ops,l=>(zh4 ds _ l).trans (zdk _ ops _)
theorem za0:∀ (c:Code) (l:List Nat),Sub l (zc2 c l)
 | .region _ ops _,l=>zdk [] ops.toList l
 | .seq a b,l=>(za0 a l).trans (za0 b _)
 | .cond c a b,l=>((zh5 [] c l).trans (za0 a _)).trans (za0 b _)
 | .block _ b,l=>za0 b l
 | .loop b,l=>za0 b l
 | .rangeFunc f _ a b,l=>((zh5 [] f l).trans (za0 a _)).trans (za0 b _)
 | .scope b,l=>za0 b l
 | .skip,l | .exit _,l | .label _,l | .goto _,l | .ret,l | .refuse _,l=>Sub.refl _
end
end Go.VE
