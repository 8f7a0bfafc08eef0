/- The evaluator, part 13: definitions and their laws, over any program. No condition. -/
import Derived.LoopN
import Derived.Scope
import Derived.Laws.StructEq
import Derived.Test.YtjpelmgihpmohaaGreatDoorVE12
set_option linter.all false
namespace Go.VE
noncomputable section
open Go
def rfOk (o:Bool):Code→Bool
 | .seq a b | .cond _ a b=>rfOk o a && rfOk o b
 | .block _ b | .loop b | .scope b=>rfOk o b
 | .rangeFunc _ _ a b=>o && (rfOk false a && rfOk false b)
 | _=>true
def zgw (p:Oper→Prop):Code→Prop
 | .region _ ops _=>∀ o,o ∈ ops.toList→p o
 | .seq a b | .cond _ a b | .rangeFunc _ _ a b=>zgw p a∧zgw p b
 | .block _ b | .loop b | .scope b=>zgw p b
 | _=>True
def mkD (b:Nat):Deferred:={ target:=.collected b,args:=#[] }
def Defs (s:Nat) (ρ:Mp) (h:H) (w:World) (ds:List Deferred):Prop:=
 s≤w.heap.size∧∃ bs:List Nat,ds=bs.map mkD∧bs.Nodup∧∀ b ∈ bs,s≤b∧w.heap[b]?=some (.deferred (some []))∧¬ live ρ h b
theorem Defs.goes {s:Nat} {ρ σ:Mp} {h h':H} {n n':Nat} {w w':World} {ds:List Deferred} (hd:Defs s ρ h w ds) (hG:Goes ρ h n w σ h' n' w'):Defs s σ h' w' ds:=by
 obtain ⟨h1,bs,h2,h3,h4⟩:=hd
 refine ⟨Nat.le_trans h1 hG.size,bs,h2,h3,fun b hb=>?_⟩
 obtain ⟨g1,g2,g3⟩:=h4 b hb
 obtain ⟨k1,k2⟩:=hG.held g2 g3
 exact ⟨g1,k1,k2⟩
theorem Defs.nil {ρ:Mp} {h:H} {w:World} {s:Nat} (hs:s≤w.heap.size):Defs s ρ h w []:=⟨hs,[],rfl,List.nodup_nil,fun b hb=>by cases hb⟩
def PostY (nt:Nat) (g:List Nat) (s:Nat) (ρ:Mp) (h:H) (n:Nat) (w:World) (rr:RR) (ex:Exit) (a':Act) (w':World):Prop:=
 ∃ e' h' n' σ,Goes ρ h n w σ h' n' w'∧FitE nt g σ e' a'∧Defs s σ h' w' a'.defers∧
  ((ex=.normal∧rr=.nrm e' h' n')∨(∃ id,ex=.exit id∧rr=.ext id e' h' n')∨(ex=.ret∧rr=.ret e' h' n'))
theorem PostX.toY {nt:Nat} {g:List Nat} {s:Nat} {ρ:Mp} {h:H} {n:Nat} {w:World} {df:List Deferred} {rr:RR} {ex:Exit} {a':Act} {w':World} (hd:Defs s ρ h w df)
  (hp:PostX nt g ρ h n w df rr ex a' w'):PostY nt g s ρ h n w rr ex a' w':=by
 obtain ⟨e',h',n',τ,g1,g2,g3,g4⟩:=hp
 exact ⟨e',h',n',τ,g1,g2,g3 ▸ hd.goes g1,g4⟩
theorem PostY.trans {nt:Nat} {g:List Nat} {s:Nat} {ρ σ:Mp} {h h1:H} {n n1:Nat} {w w1:World} {rr:RR} {ex:Exit} {a':Act} {w':World} (hG:Goes ρ h n w σ h1 n1 w1)
  (hp:PostY nt g s σ h1 n1 w1 rr ex a' w'):PostY nt g s ρ h n w rr ex a' w':=by
 obtain ⟨e',h',n',τ,g1,g2,g3,g4⟩:=hp
 exact ⟨e',h',n',τ,hG.trans g1,g2,g3,g4⟩
theorem zj7 {k:Env→H→Nat→RR} {r rr:RR} (h:zgu k r=rr) (hne:rr≠.fail):r≠.fail∧((∃ e h' n,r=.nrm e h' n∧k e h' n=rr)∨((∃ id e h' n,r=.ext id e h' n)∧r=rr)∨((∃ e h' n,r=.ret e h' n)∧r=rr)):=by
 cases r with
 | fail=>exact absurd h.symm hne
 | nrm e h' n=>exact ⟨by simp,.inl ⟨e,h',n,rfl,h⟩⟩
 | ext id e h' n=>exact ⟨by simp,.inr (.inl ⟨⟨id,e,h',n,rfl⟩,h⟩)⟩
 | ret e h' n=>exact ⟨by simp,.inr (.inr ⟨⟨e,h',n,rfl⟩,h⟩)⟩
 | fin v h' n=>exact absurd h.symm hne
section
variable {P:Program} {tb:Tb} {nt:Nat} {g:List Nat} {L:Lv} {r:Option Nat} {m:Nat}
theorem zum {ρ:Mp} {h:H} {n:Nat} {w:World} {s:Nat} {k:Env→H→Nat→RR} {r rr:RR} {K:Act→World→Prop} (hr:zgu k r=rr) (hne:rr≠.fail)
  (hK:∀ e h' n' σ a' w',k e h' n'=rr→Goes ρ h n w σ h' n' w'→FitE nt g σ e a'→Defs s σ h' w' a'.defers→K a' w') {ex:Exit} {a':Act} {w':World} (hp:PostY nt g s ρ h n w r ex a' w'):
  Exit.then K (PostY nt g s ρ h n w rr) ex a' w':=by
 obtain ⟨hr1,hr2⟩:=zj7 hr hne
 obtain ⟨e',h',n',σ,g1,g2,g3,g4⟩:=hp
 rcases g4 with ⟨rfl,rfl⟩ | ⟨id,rfl,rfl⟩ | ⟨rfl,rfl⟩
 ·rcases hr2 with ⟨e,h2,n2,e1,e2⟩ | ⟨⟨_,_,_,_,e1⟩,_⟩ | ⟨⟨_,_,_,e1⟩,_⟩
  ·cases e1; exact hK _ _ _ _ _ _ e2 g1 g2 g3
  ·cases e1
  ·cases e1
 ·rcases hr2 with ⟨_,_,_,e1,_⟩ | ⟨_,e2⟩ | ⟨⟨_,_,_,e1⟩,_⟩
  ·cases e1
  ·exact ⟨e',h',n',σ,g1,g2,g3,.inr (.inl ⟨id,rfl,e2.symm⟩)⟩
  ·cases e1
 ·rcases hr2 with ⟨_,_,_,e1,_⟩ | ⟨⟨_,_,_,_,e1⟩,_⟩ | ⟨_,e2⟩
  ·cases e1
  ·cases e1
  ·exact ⟨e',h',n',σ,g1,g2,g3,.inr (.inr ⟨rfl,e2.symm⟩)⟩
def zry (P:Program) (tb:Tb) (nt:Nat) (g:List Nat) (L:Lv) (r:Option Nat) (m:Nat) (c:Code):Prop:=zgw (zkc P tb) c→zco tb c=true→∀ (acc:List Nat),Sub (zc2 c acc) g→
  ∀ (s:Nat) (e:Env) (h:H) (n:Nat) (rr:RR) (ρ:Mp) (a:Act) (w:World),rr≠.fail→lowC nt g tb c L e h n=rr→Inv ρ h n w→FitE nt g ρ e a→Defs s ρ h w a.defers→c.wpIn (FR r) m P (PostY nt g s ρ h n w rr) a w
theorem zc9 (hm:P.follows .mixedOrders=true) (hc:zem P L.call) (hnt:nt≤255) {o:Bool} (hrf:∀ f ps x y,rfOk o (.rangeFunc f ps x y)=true→zry P tb nt g L r m (.rangeFunc f ps x y)):∀ (c:Code),rfOk o c=true→zry P tb nt g L r m c
 | .skip,_,_,_,_,_,s,e,h,n,rr,ρ,a,w,_,hr,hi,hE,hD=>wpIn_skip ⟨e,h,n,ρ,Goes.refl hi,hE,hD,.inl ⟨rfl,hr.symm⟩⟩
 | .label _,_,_,_,_,_,s,e,h,n,rr,ρ,a,w,_,hr,hi,hE,hD=>wpIn_label ⟨e,h,n,ρ,Goes.refl hi,hE,hD,.inl ⟨rfl,hr.symm⟩⟩
 | .exit id,_,_,_,_,_,s,e,h,n,rr,ρ,a,w,_,hr,hi,hE,hD=>wpIn_exit ⟨e,h,n,ρ,Goes.refl hi,hE,hD,.inr (.inl ⟨id,rfl,hr.symm⟩)⟩
 | .ret,_,_,_,_,_,s,e,h,n,rr,ρ,a,w,_,hr,hi,hE,hD=>wpIn_ret ⟨e,h,n,ρ,Goes.refl hi,hE,hD,.inr (.inr ⟨rfl,hr.symm⟩)⟩
 | .goto _,_,_,_,_,_,_,_,_,_,_,_,_,_,hne,hr,_,_,_=>absurd hr.symm hne
 | .refuse _,_,_,_,_,_,_,_,_,_,_,_,_,_,hne,hr,_,_,_=>absurd hr.symm hne
 | .rangeFunc f ps x y,hp,ho,hd,acc,hs,s,e,h,n,rr,ρ,a,w,hne,hr,hi,hE,hD=>hrf f ps x y hp ho hd acc hs s e h n rr ρ a w hne hr hi hE hD
 | .region id ops false,_,ho,_,acc,hs,s,e,h,n,rr,ρ,a,w,hne,hr,hi,hE,hD=>by
  refine wpIn_mono (wpIn_region ?_) fun ex a' w' hp=>PostX.toY hD hp
  have:=zo3 (r:=r) (m:=m) (P:=P) (tb:=tb) (g:=g) (nt:=nt) (call:=L.call) (ops:=ops) (ρ0:=ρ) (h0:=h) (n0:=n) (w0:=w) (df:=a.defers) hc hnt (fun o h=>(ho o h).1) hne ops.toList 0 [] [] e ρ h n a w acc (fun j=>by simp) (DsOf.nil _) hs (FitL.nil ρ a) hE (Goes.refl hi) rfl hr
  rwa [Array.length_toList,← List.range_eq_range'] at this
 | .region id ops true,_,ho,hd,acc,hs,s,e,h,n,rr,ρ,a,w,hne,hr,hi,hE,hD=>wpIn_mono (zps hm hc hnt ho hd hs hne hr hi hE) fun ex a' w' hp=>PostX.toY hD hp
 | .seq x y,hp,ho,hd,acc,hs,s,e,h,n,rr,ρ,a,w,hne,hr,hi,hE,hD=>by
  simp only [rfOk,Bool.and_eq_true] at hp
  simp only [zco,Bool.and_eq_true] at hd
  have hr':zgu (fun e h n=>lowC nt g tb y L e h n) (lowC nt g tb x L e h n)=rr:=hr
  refine wpIn_seq (wpIn_mono (zc9 hm hc hnt hrf x hp.1 ho.1 hd.1 acc ((za0 y _).trans hs) s e h n _ ρ a w (zj7 hr' hne).1 rfl hi hE hD) fun ex a' w' hpx=>?_)
  refine zum hr' hne (fun e1 h1 n1 σ a1 w1 hk hG hE1 hd1=>?_) hpx
  exact wpIn_mono (zc9 hm hc hnt hrf y hp.2 ho.2 hd.2 _ hs s e1 h1 n1 rr σ a1 w1 hne hk hG.inv hE1 hd1) fun ex a' w' hq=>hq.trans hG
 | .cond c x y,hp,ho,hd,acc,hs,s,e,h,n,rr,ρ,a,w,hne,hr,hi,hE,hD=>by
  simp only [rfOk,Bool.and_eq_true] at hp
  simp only [zco,Bool.and_eq_true] at hd
  simp only [lowC] at hr
  cases hcs:lowS [] c with
  | none=>rw [hcs] at hr; exact absurd hr.symm hne
  | some sx=>
   rw [hcs] at hr
   have hr':(asBool (sx [] e) fun t=>br t (lowC nt g tb x L e h n) (lowC nt g tb y L e h n))=rr:=hr
   obtain ⟨t,ht,hb⟩:=zhv hr' hne
   have hsub:Sub (zgf [] c acc) g:=((za0 x _).trans (za0 y _)).trans hs
   have hf:=zgk (FitL.nil ρ a) hE (ze5 hsub) sx hcs
   rw [ht] at hf
   simp only [rel] at hf
   refine wpIn_cond hf ?_
   cases t with
   | true=>exact zc9 hm hc hnt hrf x hp.1 ho.1 hd.1 _ ((za0 y _).trans hs) s e h n rr ρ a w hne hb hi hE hD
   | false=>exact zc9 hm hc hnt hrf y hp.2 ho.2 hd.2 _ hs s e h n rr ρ a w hne hb hi hE hD
 | .block id b,hp,ho,hd,acc,hs,s,e,h,n,rr,ρ,a,w,hne,hr,hi,hE,hD=>by
  have hr':outX id (lowC nt g tb b L e h n)=rr:=hr
  have hb:lowC nt g tb b L e h n≠.fail:=fun h0=>by rw [h0] at hr'; exact hne hr'.symm
  refine wpIn_block (wpIn_mono (zc9 hm hc hnt hrf b hp ho hd acc hs s e h n _ ρ a w hb rfl hi hE hD) fun ex a' w' hpx=>?_)
  obtain ⟨e',h',n',σ,g1,g2,g3,g4⟩:=hpx
  rcases g4 with ⟨rfl,g4⟩ | ⟨j,rfl,g4⟩ | ⟨rfl,g4⟩
  ·rw [g4] at hr'
   exact ⟨e',h',n',σ,g1,g2,g3,.inl ⟨rfl,hr'.symm⟩⟩
  ·rw [g4] at hr'
   have hr2:br (Nat.beq j id) (.nrm e' h' n') (.ext j e' h' n')=rr:=hr'
   show if j=id then PostY nt g s ρ h n w rr .normal a' w' else PostY nt g s ρ h n w rr (.exit j) a' w'
   cases hj:Nat.beq j id with
   | true=>
    rw [hj] at hr2
    rw [if_pos (zak hj)]
    exact ⟨e',h',n',σ,g1,g2,g3,.inl ⟨rfl,hr2.symm⟩⟩
   | false=>
    rw [hj] at hr2
    rw [if_neg (fun h=>by rw [h,Nat.beq_refl] at hj; cases hj)]
    exact ⟨e',h',n',σ,g1,g2,g3,.inr (.inl ⟨j,rfl,hr2.symm⟩)⟩
  ·rw [g4] at hr'
   exact ⟨e',h',n',σ,g1,g2,g3,.inr (.inr ⟨rfl,hr'.symm⟩)⟩
 | .scope b,hp,ho,hd,acc,hs,s,e,h,n,rr,ρ,a,w,hne,hr,hi,hE,hD=>by
  refine zgv (wpIn_mono (zc9 hm hc hnt hrf b hp ho hd acc hs s e h n rr ρ a w hne hr hi hE hD) fun ex a' w' hpx=>?_)
  have:=hpx
  obtain ⟨e',h',n',σ,g1,g2,g3,g4⟩:=hpx
  rcases g4 with ⟨rfl,g4⟩ | ⟨j,rfl,g4⟩ | ⟨rfl,g4⟩<;>exact this
 | .loop b,hp,ho,hd,acc,hs,s,e,h,n,rr,ρ,a,w,hne,hr,hi,hE,hD=>by
  have hr':zkh (lowC nt g tb b L) 1000000 e h n=rr:=hr
  refine wpIn_loop_rounds 1000000 ?_
  generalize 1000000=f at hr'
  suffices ∀ (f:Nat) (e1:Env) (h1:H) (n1:Nat) (σ:Mp) (a1:Act) (w1:World),Goes ρ h n w σ h1 n1 w1→FitE nt g σ e1 a1→Defs s σ h1 w1 a1.defers→zkh (lowC nt g tb b L) f e1 h1 n1=rr→
    Code.roundsIn (FR r) m P b (PostY nt g s ρ h n w rr) f a1 w1 from this f e h n ρ a w (Goes.refl hi) hE hD hr'
  intro f
  induction f with
  | zero=>intro e1 h1 n1 σ a1 w1 _ _ _ h0; exact absurd h0.symm hne
  | succ f ih=>
   intro e1 h1 n1 σ a1 w1 hG hE1 hd1 h0
   have h0':zgu (zkh (lowC nt g tb b L) f) (lowC nt g tb b L e1 h1 n1)=rr:=h0
   rw [roundsIn_succ]
   refine wpIn_mono (zc9 hm hc hnt hrf b hp ho hd acc hs s e1 h1 n1 _ σ a1 w1 (zj7 h0' hne).1 rfl hG.inv hE1 hd1) fun ex a' w' hpx=>?_
   exact zum h0' hne (fun e2 h2 n2 τ a2 w2 hk hG2 hE2 hd2=>ih e2 h2 n2 τ a2 w2 hG2 hE2 hd2 hk) (hpx.trans hG)
theorem Inv.putObj {ρ:Mp} {h:H} {n:Nat} {w:World} (hi:Inv ρ h n w) {l:Nat} (hkl:KG≤l) (hl:¬ live ρ h l) (o:Obj):Inv ρ h n (w.putObj l o):=
 ⟨fun b p hb=>by
  obtain ⟨q,x,h1,h2⟩:=hi.obj b p hb
  refine ⟨q,x,h1,?_⟩
  rwa [World.putObj_heap_other (fun e=>?_)]
  rcases Nat.lt_or_ge b KG with hbk | hbk
  ·have:=hi.st b hbk
   rw [h1] at this; cases this; omega
  ·exact hl ⟨b,p,x,hbk,hb,by rw [← e]; exact h1⟩,hi.inj,hi.dom,fun b q x hb=>by rw [World.putObj_size]; exact hi.rng b q x hb,hi.lim,hi.st⟩
theorem Goes.putObj {ρ σ:Mp} {h h':H} {n n':Nat} {w w':World} (hG:Goes ρ h n w σ h' n' w') {l:Nat} (hkg:KG≤w.heap.size) (h0:w.heap.size≤l) (hl:¬ live σ h' l) (o:Obj):Goes ρ h n w σ h' n' (w'.putObj l o):=
 ⟨hG.inv.putObj (Nat.le_trans hkg h0) hl o,hG.le,hG.next,by rw [World.putObj_size]; exact hG.size,fun q hq hx=>by rw [World.putObj_heap_other (by omega)]; exact hG.keep q hq hx,hG.lives,hG.io⟩
def zkk (P : Program) (tb : Tb) (it : zrz) : Prop := ∀ (g : Nat) (lg : LG), it g = some lg → ∃ fn c, P.funcs[g]? = some fn ∧ fn.body = some c ∧ (fn.name == "runtime.NumGoroutine") = false ∧ ztf tb fn = some lg ∧ zgw (zkc P tb) c ∧ zco tb c = true
end
end
end Go.VE
namespace Go.VE
noncomputable section
open Go
abbrev HT:=Nat→Mp→H→Nat→World→Prop
def YOk (P:Program) (m l:Nat) (HPp:HT) (Y:YT):Prop:=∀ (args:List AV) (h:H) (n:Nat) (r:RR) (σ:Mp) (W:World) (as:List Value),Y args h n=r→r≠.fail→HPp 0 σ h n W→relS σ args as→
 ∃ fn tmps x y,(Instr.yield l as.toArray).run P W=.ok (.round l fn tmps x y) W∧RoundIn (FR none) m P l fn tmps x y W fun ex W'=>∃ e' h' n' σ',σ.le σ'∧
  ((r=.nrm e' h' n'∧ex=.returned (.bool true)∧HPp 0 σ' h' n' W')∨(∃ id,r=.ext id e' h' n'∧ex=.returned (.bool false)∧HPp (id + 2) σ' h' n' W')∨(r=.ret e' h' n'∧ex=.returned (.bool false)∧HPp 1 σ' h' n' W'))
structure HOk (l b:Nat) (HPp:HT):Prop where
 inv:∀ p σ h n W,HPp p σ h n W→Inv σ h n W
 at_:∀ p σ h n W,HPp p σ h n W→σ b=some (l,0)
 next:∀ p σ h n W σ' h' n' W',HPp p σ h n W→Goes σ h n W σ' h' n' W'→HPp p σ' h' n' W'
def zhs (nt:Nat) (g:List Nat) (HPp:HT) (gr:GR) (ex:Exit) (a':Act) (W':World):Prop:=
 ∃ e' h' n' p' σ',HPp p' σ' h' n' W'∧FitE nt g σ' e' a'∧a'.defers=[]∧((ex=.normal∧gr=.nrm e' h' n' p')∨(∃ id,ex=.exit id∧gr=.ext id e' h' n' p')∨(ex=.ret∧gr=.ret e' h' n' p'))
theorem zr7 {r:RR} {f:AV→H→Nat→GR} {gr:GR} (h:zye r f=gr) (hne:gr≠.fail):∃ v h' n',r=.fin v h' n'∧f v h' n'=gr:=by
 cases r<;>first | exact ⟨_,_,_,rfl,h⟩ | exact absurd h.symm hne
theorem zpm {c:Bool} {a rr:GR} (h:br c a .fail=rr) (hne:rr≠.fail):c=true∧a=rr:=by
 cases c
 ·exact absurd h.symm hne
 ·exact ⟨rfl,h⟩
theorem zs9 {b:Nat} {v:AV} (h:zy1 b v=true):v=.yld b:=by
 cases v<;>first | (exact absurd (show false=true from h) (by decide)) | skip
 rename_i c
 have:c=b:=Nat.eq_of_beq_eq_true h
 rw [this]
theorem zkj (nt:Nat) (g:List Nat) (tb:Tb) (ds:List (Option Nat)) (cur:Nat) (o:Oper):
  zf0 nt g tb ds cur o=.pl (lowOper nt g tb ds cur o)∨zf0 nt g tb ds cur o=.pl zhw∨
  ∃ c t gd args,o.op=.call c∧c.callee=.value (.tmp t)∧zc3 ds cur o.guard=some gd∧zfc ds c.args.toList=some args∧zd8 nt o.dst=true∧zf0 nt g tb ds cur o=.yl (zcc g o.dst) gd (lowT ds t) args:=by
 unfold zf0
 split
 ·rename_i c hop
  split
  ·rename_i t hcal
   split
   ·rename_i gd args h1 h2
    cases hd:zd8 nt o.dst with
    | false=>exact .inr (.inl rfl)
    | true=>exact .inr (.inr ⟨c,t,gd,args,hop,hcal,h1,h2,rfl,rfl⟩)
   ·exact .inr (.inl rfl)
  ·exact .inl rfl
 ·exact .inl rfl
section
variable {P:Program} {tb:Tb} {g:List Nat} {nt:Nat} {call:zbc} {Y:YT} {b l m:Nat} {HPp:HT} {gr:GR}
theorem zkz {σ:Mp} {ds:List (Option Nat)} {ls:List AV} {e:Env} {a:Act}:∀ {xs:List Operand} {ss:List Sx},zfc ds xs=some ss→(∀ x ∈ xs,Fits σ ds ls e a x)→relS σ (evL ss ls e) (xs.map a.eval)
 | [],ss,h,_=>by cases h; simp only [evL,relS,List.map_nil]
 | x :: xs,ss,h,hf=>by
  simp only [zfc] at h
  cases h1:lowS ds x with
  | none=>rw [h1] at h; cases h
  | some s=>
   cases h2:zfc ds xs with
   | none=>rw [h1,h2] at h; cases h
   | some r=>
    rw [h1,h2] at h; cases h
    simp only [evL,relS,List.map_cons]
    exact ⟨_,_,rfl,hf x List.mem_cons_self s h1,zkz h2 fun y hy=>hf y (List.mem_cons_of_mem _ hy)⟩
theorem zqd {ops:Array Oper} (hc:zem P call) (hnt:nt≤255) (hops:∀ o,o ∈ ops.toList→OpOk P tb o) (hY:YOk P (m - 1) l HPp Y) (hH:HOk l b HPp) (hne:gr≠.fail):
  ∀ (ol:List Oper) (k:Nat) (ds:List (Option Nat)) (ls:List AV) (e:Env) (σ:Mp) (h:H) (n p:Nat) (a:Act) (W:World) (acc:List Nat),
   (∀ j,ol[j]?=ops[k + j]?)→DsOf ops k ds→Sub (zeb ds ol acc) g→FitL σ ds ls a→FitE nt g σ e a→HPp p σ h n W→a.defers=[]→
   runG call Y b (zdn nt g tb ds k ol) ls e h n p=gr→wpOpsIn (FR none) m P ops (zhs nt g HPp gr) (List.range' k ol.length) a W
 | [],k,ds,ls,e,σ,h,n,p,a,W,acc,_,_,_,_,hE,hP,hd,hr=>⟨e,h,n,p,σ,hP,hE,hd,.inl ⟨rfl,hr.symm⟩⟩
 | o :: ol,k,ds,ls,e,σ,h,n,p,a,W,acc,hl,hds,hs,hL,hE,hP,hd,hr=>by
  have ho:ops[k]?=some o:=by simpa using (hl 0).symm
  have hmem:o ∈ ops.toList:=by
   rw [← Array.getElem?_toList] at ho
   exact List.mem_of_getElem? ho
  have hl':∀ j,ol[j]?=ops[k + 1 + j]?:=fun j=>by have:=hl (j + 1); simpa [Nat.add_assoc,Nat.add_comm 1 j] using this
  have hkept:∀ x,x ∈ o.op.operands→Kept g ds x:=fun x hx=>ze4 (l:=acc) ((zdk _ ol _).trans hs) x (by simpa using hx)
  have hi:=hH.inv _ _ _ _ _ hP
  simp only [List.length_cons,List.range'_succ,wpOpsIn,ho]
  have hr0:stepG call Y b (zf0 nt g tb ds k o) (runG call Y b (zdn nt g tb (o.dst :: ds) (k + 1) ol)) ls e h n p=gr:=hr
  have next:∀ (a':Act) (W':World) (v:AV) (rv:Value) (σ':Mp) (h':H) (n' p':Nat),zd8 nt o.dst=true→a'=a.put o.dst rv→σ.le σ'→rel σ' v rv→HPp p' σ' h' n' W'→
    runG call Y b (zdn nt g tb (o.dst :: ds) (k + 1) ol) (v :: ls) (putE e (zcc g o.dst) v) h' n' p'=gr→wpOpsIn (FR none) m P ops (zhs nt g HPp gr) (List.range' (k + 1) ol.length) a' W':=by
   intro a' W' v rv σ' h' n' p' hdst ha hle hrel hP' hk
   subst ha
   refine zqd hc hnt hops hY hH hne ol (k + 1) (o.dst :: ds) (v :: ls) _ σ' h' n' p' _ W' (zj0 ds o.op.operands.toList acc) hl' (hds.cons ho) hs ?_ (hE.put hle hnt hdst hrel) hP' (by rw [zf3,hd]) hk
   exact hL.put hle (fun d hd'=>by have:=hE.size; rw [hd'] at hdst; simp only [zd8,Nat.blt_eq] at hdst; omega) hrel
  have skip:∀ gd,zc3 ds k o.guard=some gd→zd8 nt o.dst=true→za4 ls gd=false→runG call Y b (zdn nt g tb (o.dst :: ds) (k + 1) ol) (.undef :: ls) (putE e (zcc g o.dst) .undef) h n p=gr→
    (if Region.wanted o (yielded ops a.tmps)=true then o.wpIn (FR none) m P a W (wpOpsIn (FR none) m P ops (zhs nt g HPp gr) (List.range' (k + 1) ol.length)) (zhs nt g HPp gr)
     else (∀ f,o.about P W a.eval=some f→(FR none).fn f)∧wpOpsIn (FR none) m P ops (zhs nt g HPp gr) (List.range' (k + 1) ol.length) (a.put o.dst undef) W):=by
   intro gd hg hdst hw hk
   rw [zmf hds hL hg,hw,if_neg (by simp)]
   exact ⟨fun _ _=>trivial,next _ _ .undef undef σ h n p hdst rfl (Mp.le_refl _) (zd4 σ) hP hk⟩
  rcases zkj nt g tb ds k o with hlow | hlow | ⟨c,t,gd,args,hop,hcal,hg,hargs,hdst,hlow⟩
  ·rw [hlow] at hr0
   have hr1:br (za4 ls (lowOper nt g tb ds k o).guard) (zye ((lowOper nt g tb ds k o).op call ls e h n finK) fun v h n=>runG call Y b (zdn nt g tb (o.dst :: ds) (k + 1) ol) (v :: ls) (putE e (lowOper nt g tb ds k o).dst v) h n p)
    (runG call Y b (zdn nt g tb (o.dst :: ds) (k + 1) ol) (.undef :: ls) (putE e (lowOper nt g tb ds k o).dst .undef) h n p)=gr:=hr0
   unfold lowOper at hr1
   cases hg:zc3 ds k o.guard with
   | none=>rw [hg] at hr1; exact absurd hr1.symm hne
   | some gd=>
    rw [hg] at hr1
    cases hdst:zd8 nt o.dst with
    | false=>rw [hdst] at hr1; exact absurd hr1.symm hne
    | true=>
     rw [hdst] at hr1
     simp only [cond_true] at hr1
     cases hw:za4 ls gd with
     | false=>rw [hw,zbe] at hr1; exact skip gd hg hdst hw hr1
     | true=>
      rw [hw,zb2] at hr1
      rw [zmf hds hL hg,hw,if_pos rfl]
      obtain ⟨v,h',n',hf,hk⟩:=zr7 hr1 hne
      refine Oper.wpIn_mono (fun a' W' ha=>?_) (Oper.wpIn_of (zc4 hf (by simp)) (hops o hmem ds ls e a σ h n W call finK _ _ hc (fun x hx=>zgk hL hE (hkept x hx)) hi hf (by simp)))
      obtain ⟨rv,ha',v',h2,n2,σ',hk2,hG',hrel⟩:=ha
      injection hk2 with e1 e2 e3
      subst e1; subst e2; subst e3
      exact next a' W' _ rv σ' _ _ p hdst ha' hG'.le hrel (hH.next _ _ _ _ _ _ _ _ _ hP hG') hk
  ·rw [hlow] at hr0
   exact absurd (show GR.fail=gr from hr0).symm hne
  ·rw [hlow] at hr0
   have hr1:br (za4 ls gd) (br (zy1 b (lowT ds t ls e)) (br (Nat.beq p 0) (zx8 (Y (evL args ls e) h n) fun t h n p=>runG call Y b (zdn nt g tb (o.dst :: ds) (k + 1) ol) (.bool t :: ls) (putE e (zcc g o.dst) (.bool t)) h n p) .fail) .fail)
    (runG call Y b (zdn nt g tb (o.dst :: ds) (k + 1) ol) (.undef :: ls) (putE e (zcc g o.dst) .undef) h n p)=gr:=hr0
   cases hw:za4 ls gd with
   | false=>rw [hw,zbe] at hr1; exact skip gd hg hdst hw hr1
   | true=>
    rw [hw,zb2] at hr1
    rw [zmf hds hL hg,hw,if_pos rfl]
    obtain ⟨q1,hr2⟩:=zpm hr1 hne
    obtain ⟨q2,hr3⟩:=zpm hr2 hne
    have hp0:=zak q2
    subst hp0
    have hv:=zs9 q1
    have hops':∀ x,x ∈ c.args.toList∨x=.tmp t→x ∈ o.op.operands:=by
     intro x hx
     rw [hop]
     have e1:(Op.call c).operands=c.operands:=rfl
     rw [e1]
     unfold Call.operands
     rw [hcal]
     rcases hx with hx | hx
     ·exact Array.mem_append_right _ (by simpa using hx)
     ·exact Array.mem_append_left _ (by simp [hx])
    have hft:=zgk hL hE (hkept (.tmp t) (hops' _ (.inr rfl))) (lowT ds t) rfl
    rw [hv] at hft
    simp only [rel] at hft
    obtain ⟨r,hbr,hev⟩:=hft
    have hbl:=hH.at_ _ _ _ _ _ hP
    rw [hbl] at hbr; cases hbr
    have hrel:=zkz hargs fun x hx=>zgk hL hE (hkept x (hops' x (.inl hx)))
    have hyne:Y (evL args ls e) h n≠.fail:=fun h0=>by rw [h0] at hr3; exact hne hr3.symm
    obtain ⟨fn,tmps,x,y,hrun,hround⟩:=hY _ _ _ _ _ _ _ rfl hyne hP hrel
    have hx:(execOp a.eval o).run P W=.ok (.round l fn tmps x y) W:=by
     simp only [execOp,hop]
     simp only [resolve,hcal,hev]
     have e2:(c.args.toList.map a.eval).toArray=c.args.map a.eval:=by
      apply Array.ext'
      rw [Array.toList_map]
     rw [e2] at hrun
     simpa [invoke,go_sem] using hrun
    refine ⟨fun _ _=>trivial,?_⟩
    rw [show (FR none).round=none from rfl,Oper.semAt_none,hx,Oper.uponIn_round]
    refine ⟨fun hh=>(by cases hh),hround.mono fun ex W' hp=>?_⟩
    obtain ⟨e',h',n',σ',hle,hcase⟩:=hp
    have fin:∀ (t:Bool) (p':Nat),HPp p' σ' h' n' W'→runG call Y b (zdn nt g tb (o.dst :: ds) (k + 1) ol) (.bool t :: ls) (putE e (zcc g o.dst) (.bool t)) h' n' p'=gr→wpOpsIn (FR none) m P ops (zhs nt g HPp gr) (List.range' (k + 1) ol.length) (a.put o.dst (.bool t)) W':=
     fun t p' hP' hk=>next _ _ (.bool t) (.bool t) σ' h' n' p' hdst rfl hle (by simp only [rel]) hP' hk
    rcases hcase with ⟨hyr,rfl,hP'⟩ | ⟨id,hyr,rfl,hP'⟩ | ⟨hyr,rfl,hP'⟩
    ·rw [hyr] at hr3; exact fin true 0 hP' hr3
    ·rw [hyr] at hr3
     have hr4:(frc (id + 2) fun p=>runG call Y b (zdn nt g tb (o.dst :: ds) (k + 1) ol) (.bool false :: ls) (putE e (zcc g o.dst) (.bool false)) h' n' p)=gr:=hr3
     have hfrc:∀ {β:Type} (x:Nat) (k:Nat→β),frc x k=k x:=fun x k=>by cases x<;>rfl
     rw [hfrc] at hr4
     exact fin false (id + 2) hP' hr4
    ·rw [hyr] at hr3; exact fin false 1 hP' hr3
def zx9 (P:Program) (tb:Tb) (nt:Nat) (g:List Nat) (call:zbc) (Y:YT) (b m:Nat) (HPp:HT) (c:Code):Prop:=zgw (zkc P tb) c→zco tb c=true→∀ (acc:List Nat),Sub (zc2 c acc) g→
  ∀ (e:Env) (h:H) (n p:Nat) (gr:GR) (σ:Mp) (a:Act) (W:World),gr≠.fail→zd7 nt g tb c call Y b e h n p=gr→HPp p σ h n W→FitE nt g σ e a→a.defers=[]→c.wpIn (FR none) m P (zhs nt g HPp gr) a W
theorem zj6 {k:Env→H→Nat→Nat→GR} {r rr:GR} (h:zrq k r=rr) (hne:rr≠.fail):r≠.fail∧((∃ e h' n p,r=.nrm e h' n p∧k e h' n p=rr)∨((∃ id e h' n p,r=.ext id e h' n p)∧r=rr)∨((∃ e h' n p,r=.ret e h' n p)∧r=rr)):=by
 cases r with
 | fail=>exact absurd h.symm hne
 | nrm e h' n p=>exact ⟨by simp,.inl ⟨e,h',n,p,rfl,h⟩⟩
 | ext id e h' n p=>exact ⟨by simp,.inr (.inl ⟨⟨id,e,h',n,p,rfl⟩,h⟩)⟩
 | ret e h' n p=>exact ⟨by simp,.inr (.inr ⟨⟨e,h',n,p,rfl⟩,h⟩)⟩
theorem zqq {k:Env→H→Nat→Nat→GR} {r rr:GR} {K:Act→World→Prop} (hr:zrq k r=rr) (hne:rr≠.fail)
  (hK:∀ e h' n' p' σ a' w',k e h' n' p'=rr→HPp p' σ h' n' w'→FitE nt g σ e a'→a'.defers=[]→K a' w') {ex:Exit} {a':Act} {w':World} (hp:zhs nt g HPp r ex a' w'):
  Exit.then K (zhs nt g HPp rr) ex a' w':=by
 obtain ⟨hr1,hr2⟩:=zj6 hr hne
 obtain ⟨e',h',n',p',σ,g1,g2,g3,g4⟩:=hp
 rcases g4 with ⟨rfl,rfl⟩ | ⟨id,rfl,rfl⟩ | ⟨rfl,rfl⟩
 ·rcases hr2 with ⟨e,h2,n2,p2,e1,e2⟩ | ⟨⟨_,_,_,_,_,e1⟩,_⟩ | ⟨⟨_,_,_,_,e1⟩,_⟩
  ·cases e1; exact hK _ _ _ _ _ _ _ e2 g1 g2 g3
  ·cases e1
  ·cases e1
 ·rcases hr2 with ⟨_,_,_,_,e1,_⟩ | ⟨_,e2⟩ | ⟨⟨_,_,_,_,e1⟩,_⟩
  ·cases e1
  ·exact ⟨e',h',n',p',σ,g1,g2,g3,.inr (.inl ⟨id,rfl,e2.symm⟩)⟩
  ·cases e1
 ·rcases hr2 with ⟨_,_,_,_,e1,_⟩ | ⟨⟨_,_,_,_,_,e1⟩,_⟩ | ⟨_,e2⟩
  ·cases e1
  ·cases e1
  ·exact ⟨e',h',n',p',σ,g1,g2,g3,.inr (.inr ⟨rfl,e2.symm⟩)⟩
theorem zto (hH:HOk l b HPp) {p:Nat} {r:RR} (hr:ofRR p r=gr) (hne:gr≠.fail) {σ:Mp} {h:H} {n:Nat} {W:World} (hP:HPp p σ h n W) {ex:Exit} {a':Act} {W':World} {df:List Deferred} (hdf:df=[]) (hp:PostX nt g σ h n W df r ex a' W'):zhs nt g HPp gr ex a' W':=by
 obtain ⟨e',h',n',τ,g1,g2,g3,g4⟩:=hp
 refine ⟨e',h',n',p,τ,hH.next _ _ _ _ _ _ _ _ _ hP g1,g2,g3.trans hdf,?_⟩
 rcases g4 with ⟨rfl,rfl⟩ | ⟨id,rfl,rfl⟩ | ⟨rfl,rfl⟩
 ·exact .inl ⟨rfl,hr.symm⟩
 ·exact .inr (.inl ⟨id,rfl,hr.symm⟩)
 ·exact .inr (.inr ⟨rfl,hr.symm⟩)
theorem zd0 (hm:P.follows .mixedOrders=true) (hc:zem P call) (hnt:nt≤255) (hY:YOk P (m - 1) l HPp Y) (hH:HOk l b HPp):∀ (c:Code),zx9 P tb nt g call Y b m HPp c
 | .skip,_,_,_,_,e,h,n,p,gr,σ,a,W,_,hr,hP,hE,hd=>wpIn_skip ⟨e,h,n,p,σ,hP,hE,hd,.inl ⟨rfl,hr.symm⟩⟩
 | .label _,_,_,_,_,e,h,n,p,gr,σ,a,W,_,hr,hP,hE,hd=>wpIn_label ⟨e,h,n,p,σ,hP,hE,hd,.inl ⟨rfl,hr.symm⟩⟩
 | .exit id,_,_,_,_,e,h,n,p,gr,σ,a,W,_,hr,hP,hE,hd=>wpIn_exit ⟨e,h,n,p,σ,hP,hE,hd,.inr (.inl ⟨id,rfl,hr.symm⟩)⟩
 | .ret,_,_,_,_,e,h,n,p,gr,σ,a,W,_,hr,hP,hE,hd=>wpIn_ret ⟨e,h,n,p,σ,hP,hE,hd,.inr (.inr ⟨rfl,hr.symm⟩)⟩
 | .goto _,_,_,_,_,_,_,_,_,_,_,_,_,hne,hr,_,_,_=>absurd hr.symm hne
 | .refuse _,_,_,_,_,_,_,_,_,_,_,_,_,hne,hr,_,_,_=>absurd hr.symm hne
 | .rangeFunc _ _ _ _,_,_,_,_,_,_,_,_,_,_,_,_,hne,hr,_,_,_=>absurd hr.symm hne
 | .scope _,_,_,_,_,_,_,_,_,_,_,_,_,hne,hr,_,_,_=>absurd hr.symm hne
 | .region id ops false,ho,_,acc,hs,e,h,n,p,gr,σ,a,W,hne,hr,hP,hE,hd=>by
  refine wpIn_region ?_
  have:=zqd (P:=P) (tb:=tb) (g:=g) (nt:=nt) (call:=call) (ops:=ops) (m:=m) hc hnt (fun o h=>(ho o h).1) hY hH hne ops.toList 0 [] [] e σ h n p a W acc (fun j=>by simp) (DsOf.nil _) hs (FitL.nil σ a) hE hP hd hr
  rwa [Array.length_toList,← List.range_eq_range'] at this
 | .region id ops true,ho,hdr,acc,hs,e,h,n,p,gr,σ,a,W,hne,hr,hP,hE,hd=>by
  have hr':ofRR p (zld nt g tb ops.toList ⟨call,fun _=>none⟩ e h n)=gr:=hr
  have hx:zld nt g tb ops.toList ⟨call,fun _=>none⟩ e h n≠.fail:=fun h0=>by rw [h0] at hr'; exact hne hr'.symm
  exact wpIn_mono (zps (L:=⟨call,fun _=>none⟩) hm hc hnt ho hdr hs hx rfl (hH.inv _ _ _ _ _ hP) hE) fun ex a' w' hp=>zto hH hr' hne hP hd hp
 | .seq x y,ho,hdr,acc,hs,e,h,n,p,gr,σ,a,W,hne,hr,hP,hE,hd=>by
  simp only [zco,Bool.and_eq_true] at hdr
  have hr':zrq (fun e h n p=>zd7 nt g tb y call Y b e h n p) (zd7 nt g tb x call Y b e h n p)=gr:=hr
  refine wpIn_seq (wpIn_mono (zd0 hm hc hnt hY hH x ho.1 hdr.1 acc ((za0 y _).trans hs) e h n p _ σ a W (zj6 hr' hne).1 rfl hP hE hd) fun ex a' w' hpx=>?_)
  exact zqq hr' hne (fun e1 h1 n1 p1 τ a1 w1 hk hP1 hE1 hd1=>zd0 hm hc hnt hY hH y ho.2 hdr.2 _ hs e1 h1 n1 p1 gr τ a1 w1 hne hk hP1 hE1 hd1) hpx
 | .cond c x y,ho,hdr,acc,hs,e,h,n,p,gr,σ,a,W,hne,hr,hP,hE,hd=>by
  simp only [zco,Bool.and_eq_true] at hdr
  simp only [zd7] at hr
  cases hcs:lowS [] c with
  | none=>rw [hcs] at hr; exact absurd hr.symm hne
  | some sx=>
   rw [hcs] at hr
   have hr':condG (sx [] e) (zd7 nt g tb x call Y b e h n p) (zd7 nt g tb y call Y b e h n p)=gr:=hr
   obtain ⟨t,ht⟩:∃ t,sx [] e=.bool t:=by
    cases hv:sx [] e<;>rw [hv] at hr'<;>first | exact ⟨_,rfl⟩ | exact absurd hr'.symm hne
   rw [ht] at hr'
   have hb:br t (zd7 nt g tb x call Y b e h n p) (zd7 nt g tb y call Y b e h n p)=gr:=hr'
   have hsub:Sub (zgf [] c acc) g:=((za0 x _).trans (za0 y _)).trans hs
   have hf:=zgk (FitL.nil σ a) hE (ze5 hsub) sx hcs
   rw [ht] at hf
   simp only [rel] at hf
   refine wpIn_cond hf ?_
   cases t with
   | true=>exact zd0 hm hc hnt hY hH x ho.1 hdr.1 _ ((za0 y _).trans hs) e h n p gr σ a W hne hb hP hE hd
   | false=>exact zd0 hm hc hnt hY hH y ho.2 hdr.2 _ hs e h n p gr σ a W hne hb hP hE hd
 | .block id x,ho,hdr,acc,hs,e,h,n,p,gr,σ,a,W,hne,hr,hP,hE,hd=>by
  have hr':outG id (zd7 nt g tb x call Y b e h n p)=gr:=hr
  have hb:zd7 nt g tb x call Y b e h n p≠.fail:=fun h0=>by rw [h0] at hr'; exact hne hr'.symm
  refine wpIn_block (wpIn_mono (zd0 hm hc hnt hY hH x ho hdr acc hs e h n p _ σ a W hb rfl hP hE hd) fun ex a' w' hpx=>?_)
  obtain ⟨e',h',n',p',τ,g1,g2,g3,g4⟩:=hpx
  rcases g4 with ⟨rfl,g4⟩ | ⟨j,rfl,g4⟩ | ⟨rfl,g4⟩
  ·rw [g4] at hr'
   exact ⟨e',h',n',p',τ,g1,g2,g3,.inl ⟨rfl,hr'.symm⟩⟩
  ·rw [g4] at hr'
   have hr2:br (Nat.beq j id) (.nrm e' h' n' p') (.ext j e' h' n' p')=gr:=hr'
   show if j=id then zhs nt g HPp gr .normal a' w' else zhs nt g HPp gr (.exit j) a' w'
   cases hj:Nat.beq j id with
   | true=>
    rw [hj] at hr2
    rw [if_pos (zak hj)]
    exact ⟨e',h',n',p',τ,g1,g2,g3,.inl ⟨rfl,hr2.symm⟩⟩
   | false=>
    rw [hj] at hr2
    rw [if_neg (fun h=>by rw [h,Nat.beq_refl] at hj; cases hj)]
    exact ⟨e',h',n',p',τ,g1,g2,g3,.inr (.inl ⟨j,rfl,hr2.symm⟩)⟩
  ·rw [g4] at hr'
   exact ⟨e',h',n',p',τ,g1,g2,g3,.inr (.inr ⟨rfl,hr'.symm⟩)⟩
 | .loop x,ho,hdr,acc,hs,e,h,n,p,gr,σ,a,W,hne,hr,hP,hE,hd=>by
  have hr':zvy (zd7 nt g tb x call Y b) 1000000 e h n p=gr:=hr
  refine wpIn_loop_rounds 1000000 ?_
  generalize 1000000=f at hr'
  suffices ∀ (f:Nat) (e1:Env) (h1:H) (n1 p1:Nat) (τ:Mp) (a1:Act) (w1:World),HPp p1 τ h1 n1 w1→FitE nt g τ e1 a1→a1.defers=[]→zvy (zd7 nt g tb x call Y b) f e1 h1 n1 p1=gr→
    Code.roundsIn (FR none) m P x (zhs nt g HPp gr) f a1 w1 from this f e h n p σ a W hP hE hd hr'
  intro f
  induction f with
  | zero=>intro e1 h1 n1 p1 τ a1 w1 _ _ _ h0; exact absurd h0.symm hne
  | succ f ih=>
   intro e1 h1 n1 p1 τ a1 w1 hP1 hE1 hd1 h0
   have h0':zrq (zvy (zd7 nt g tb x call Y b) f) (zd7 nt g tb x call Y b e1 h1 n1 p1)=gr:=h0
   rw [roundsIn_succ]
   refine wpIn_mono (zd0 hm hc hnt hY hH x ho hdr acc hs e1 h1 n1 p1 _ τ a1 w1 (zj6 h0' hne).1 rfl hP1 hE1 hd1) fun ex a' w' hpx=>?_
   exact zqq h0' hne (fun e2 h2 n2 p2 υ a2 w2 hk hP2 hE2 hd2=>ih e2 h2 n2 p2 υ a2 w2 hP2 hE2 hd2 hk) hpx
end
end
end Go.VE
namespace Go.VE
noncomputable section
open Go
theorem zid {P:Program} {f:Nat} (hf:zgx P f) (args:Array Value) (w:World):(callFunc f args).run P w=.ok (.enter f args) w:=by
 obtain ⟨fn,h1,h2,h3⟩:=hf
 have h2' : fn.name ≠ "runtime.NumGoroutine" := by simpa using h2
 have h3':fn.body≠none:=by intro e; rw [e] at h3; cases h3
 simp [callFunc,program,Sem.run,h1,h2',h3']
theorem zqm {ρ:Mp}:∀ {args:List AV} {as:List Value},relS ρ args as→args.length=as.length∧∀ (i:Nat) (v:AV),args[i]?=some v→∃ rv:Value,as[i]?=some rv∧rel ρ v rv
 | [],as,h=>by simp only [relS] at h; subst h; exact ⟨rfl,fun i v hv=>by simp at hv⟩
 | a :: l,as,h=>by
  simp only [relS] at h
  obtain ⟨v,r,rfl,h1,h2⟩:=h
  obtain ⟨g1,g2⟩:=zqm h2
  refine ⟨by simp [g1],fun i u hu=>?_⟩
  cases i with
  | zero=>cases hu; exact ⟨v,rfl,h1⟩
  | succ i=>exact g2 i u hu
theorem zt8 {ρ:Mp}:∀ {l:AV} {vs:List Value},relL ρ l vs→relS ρ (toL l) vs:=by
 intro l
 induction l with
 | nl=>intro vs h; simp only [relL] at h; subst h; simp only [toL,relS]
 | cons a l ih1 ih2=>
  intro vs h
  simp only [relL] at h
  obtain ⟨v,r,rfl,g1,g2⟩:=h
  simp only [toL,relS]
  exact ⟨v,r,rfl,g1,ih2 g2⟩
 | _=>intro vs h; simp only [relL] at h
theorem zmk:∀ (l:List AV) (k:Nat) (e:Env) (j:Nat),1≤k→1≤j→k + l.length≤256→eAt j (zhu l k e)=if k≤j∧j < k + l.length then orU l[j - k]? else eAt j e
 | [],k,e,j,_,_,_=>by simp only [z08,List.length_nil]; rw [if_neg (by omega)]
 | a :: l,k,e,j,hk,hj,hl=>by
  simp only [List.length_cons] at hl ⊢
  simp only [z04]
  rw [zmk l (k + 1) _ j (by omega) hj (by omega),zji (by omega)]
  by_cases h1:k + 1≤j∧j < k + 1 + l.length
  ·rw [if_pos h1,if_pos (by omega),show j - k=(j - (k + 1)) + 1 by omega,List.getElem?_cons_succ]
  ·rw [if_neg h1]
   by_cases h2:j=k
   ·subst h2; rw [if_pos rfl,if_pos (by omega),Nat.sub_self]; rfl
   ·rw [if_neg h2,if_neg (by omega)]
theorem zp0 {nt:Nat} {g:List Nat} {ρ:Mp} {args:List AV} {as:List Value} (hst:∀ i,i < KG→ρ i=some (i,0)) (h:relS ρ args as) (hl:args.length≤201):
  FitE nt g ρ (zhu args 1 .nil) { tmps:=as.toArray ++ Array.replicate (nt - as.toArray.size) undef,defers:=[] }:=by
 obtain ⟨g1,g2⟩:=zqm h
 refine ⟨fun t _=>?_,by simp; omega,hst⟩
 rw [zmk args 1 .nil (t + 1) (by omega) (by omega) (by omega)]
 by_cases ht:t < args.length
 ·rw [if_pos (by omega),Nat.add_sub_cancel]
  obtain ⟨rv,h1,h2⟩:=g2 t args[t] (by simp [ht])
  have e1:args[t]?=some args[t]:=by simp [ht]
  rw [e1]
  have:(as.toArray ++ Array.replicate (nt - as.toArray.size) undef).getD t undef=rv:=by
   rw [Array.getD_eq_getD_getElem?,Array.getElem?_append_left (by simp; omega)]
   simp [h1]
  show rel ρ args[t] _
  rw [this]; exact h2
 ·rw [if_neg (by omega)]
  rw [zyh]
  have:(as.toArray ++ Array.replicate (nt - as.toArray.size) undef).getD t undef=undef:=by
   rw [Array.getD_eq_getD_getElem?,Array.getElem?_append_right (by simp; omega),Array.getElem?_replicate]
   split<;>rfl
  show rel ρ .undef _
  rw [this]; exact zd4 ρ
section
variable {P:Program} {tb:Tb} {nt:Nat} {g:List Nat} {L:Lv} {m:Nat}
structure Held (ρ:Mp) (h:H) (n:Nat) (w:World) (l D:Nat) (o:Obj) (σ:Mp) (h':H) (n':Nat) (W:World):Prop where
 goes:Goes ρ h n w σ h' n' W
 loop:W.heap[l]?=some o
 nloop:¬ live σ h' l
 defs:W.heap[D]?=some (.deferred (some []))
 ndefs:¬ live σ h' D
theorem Held.next {ρ σ τ:Mp} {h h' h2:H} {n n' n2:Nat} {w W W2:World} {l D:Nat} {o:Obj} (hH:Held ρ h n w l D o σ h' n' W) (hG:Goes σ h' n' W τ h2 n2 W2):Held ρ h n w l D o τ h2 n2 W2:=by
 obtain ⟨k1,k2⟩:=hG.held hH.loop hH.nloop
 obtain ⟨k3,k4⟩:=hG.held hH.defs hH.ndefs
 exact ⟨hH.goes.trans hG,k1,k2,k3,k4⟩
theorem Held.put {ρ σ:Mp} {h h':H} {n n':Nat} {w W:World} {l D:Nat} {o:Obj} (hH:Held ρ h n w l D o σ h' n' W) (hkg:KG≤w.heap.size) (hl:w.heap.size≤l) (hD:D≠l) (o':Obj):Held ρ h n w l D o' σ h' n' (W.putObj l o'):=
 ⟨hH.goes.putObj hkg hl hH.nloop o',World.putObj_heap_same (zh9 hH.loop),hH.nloop,by rw [World.putObj_heap_other hD]; exact hH.defs,hH.ndefs⟩
theorem Held.heap {ρ σ:Mp} {h h':H} {n n':Nat} {w W W2:World} {l D:Nat} {o:Obj} (hH:Held ρ h n w l D o σ h' n' W) (e:W2.heap=W.heap) (hio:W2.os=W.os∧W2.output=W.output):Held ρ h n w l D o σ h' n' W2:=
 hH.next (Goes.heap hH.goes.inv e hio)
theorem Defs.put {s:Nat} {ρ:Mp} {h:H} {w:World} {ds:List Deferred} {l:Nat} {r:Loop} (hd:Defs s ρ h w ds) (hl:w.heap[l]?=some (.loop r)) (o:Obj):Defs s ρ h (w.putObj l o) ds:=by
 obtain ⟨h1,bs,h2,h3,h4⟩:=hd
 refine ⟨by rw [World.putObj_size]; exact h1,bs,h2,h3,fun b hb=>?_⟩
 obtain ⟨g1,g2,g3⟩:=h4 b hb
 refine ⟨g1,?_,g3⟩
 rw [World.putObj_heap_other (fun e=>by subst e; rw [hl] at g2; cases g2)]
 exact g2
theorem Defs.cons {s:Nat} {ρ:Mp} {h:H} {w:World} {ds:List Deferred} {D:Nat} (hd:Defs s ρ h w ds) (hs:s≤D) (hD:w.heap[D]?=some (.deferred (some []))) (hn:¬ live ρ h D) (hnew:∀ d ∈ ds,d≠mkD D):Defs s ρ h w (mkD D :: ds):=by
 obtain ⟨h1,bs,h2,h3,h4⟩:=hd
 refine ⟨h1,D :: bs,by rw [h2]; rfl,List.nodup_cons.2 ⟨fun hb=>?_,h3⟩,fun b hb=>?_⟩
 ·exact hnew (mkD D) (by rw [h2]; exact List.mem_map.2 ⟨D,hb,rfl⟩) rfl
 ·rcases List.mem_cons.1 hb with rfl | hb
  ·exact ⟨hs,hD,hn⟩
  ·exact h4 b hb
theorem zv0 {k:Env→H→Nat→RR} {r:RR} (h:nrmX k r≠.fail):∃ e h' n',r=.nrm e h' n':=by
 cases r with
 | nrm e h' n'=>exact ⟨e,h',n',rfl⟩
 | _=>exact absurd rfl h
theorem Inv.ghost {ρ:Mp} {h:H} {n:Nat} {w:World} (hi:Inv ρ h n w) (hn:n < top) {l:Nat} (hl:l < w.heap.size):Goes ρ h n w (ρ.ext n (l,0) (0,0)) h (n + 1) w:=by
 have hle:ρ.le (ρ.ext n (l,0) (0,0)):=Mp.ext_le hi.fresh
 have hb:∀ b o,getO h b=some o→b≠n:=fun b o hb e=>by subst e; rw [hi.none_of] at hb; cases hb
 refine ⟨⟨fun b o hg=>?_,fun b c o p r x y h1 h2 h3 h4=>?_,fun b hx=>?_,fun b r x hx=>?_,by unfold top at hn; omega,fun i hk=>hle.at_ _ _ (hi.st i hk)⟩,hle,by omega,Nat.le_refl _,fun _ _ _=>rfl,fun r _ hl=>?_,rfl,rfl⟩
 ·obtain ⟨r,x,h1,h2⟩:=hi.obj b o hg
  exact ⟨r,x,hle.at_ _ _ h1,by rw [Mp.ext_otherG (hb b o hg)]; exact zb1 hle h2⟩
 ·rw [Mp.ext_other (hb b o h1)] at h3
  rw [Mp.ext_other (hb c p h2)] at h4
  exact hi.inj _ _ _ _ _ _ _ h1 h2 h3 h4
 ·by_cases e:b=n
  ·omega
  ·rw [Mp.ext_other e] at hx; have:=hi.dom b hx; omega
 ·by_cases e:b=n
  ·subst e; rw [Mp.ext_same] at hx; cases hx; exact hl
  ·rw [Mp.ext_other e] at hx; exact hi.rng _ _ _ hx
 ·obtain ⟨b,o,x,hk,h1,h2⟩:=hl
  rw [Mp.ext_other (hb b o h1)] at h2
  exact ⟨b,o,x,hk,h1,h2⟩
def jmpP:Nat→Option Code
 | 0=>none
 | 1=>some .ret
 | k + 2=>some (.exit k)
def staP:Nat→LoopState
 | 0=>.ready
 | _=>.done
theorem zz2:∀ p,staP p≠.busy
 | 0=>by simp [staP]
 | _ + 1=>by simp [staP]
theorem zvh {e0:Env} {gr:GR} {rr:RR} (h:endG e0 gr=rr) (hne:rr≠.fail):∃ e' h' n' p',(gr=.nrm e' h' n' p'∨gr=.ret e' h' n' p')∧zvt e0 h' n' p'=rr:=by
 cases gr with
 | fail=>exact absurd h.symm hne
 | ext _ _ _ _ _=>exact absurd h.symm hne
 | nrm e' h' n' p'=>exact ⟨e',h',n',p',.inl rfl,h⟩
 | ret e' h' n' p'=>exact ⟨e',h',n',p',.inr rfl,h⟩
theorem zta {e0:Env} {h':H} {n' p':Nat} {rr:RR} (h:zvt e0 h' n' p'=rr):(jmpP p'=none∧rr=.nrm e0 h' n')∨(jmpP p'=some .ret∧rr=.ret e0 h' n')∨(∃ id,jmpP p'=some (.exit id)∧rr=.ext id e0 h' n'):=by
 match p' with
 | 0=>exact .inl ⟨rfl,h.symm⟩
 | 1=>exact .inr (.inl ⟨rfl,h.symm⟩)
 | k + 2=>
  refine .inr (.inr ⟨k,rfl,?_⟩)
  have:(frc (k + 2 - 2) fun id=>RR.ext id e0 h' n')=rr:=h
  rw [zam] at this
  exact this.symm
theorem rf_ok (hm:P.follows .mixedOrders=true) (hc:zem P L.call) (hit:zkk P tb L.iter) (hnt:nt≤255) (f:Operand) (ps:Array Tmp) (x y:Code) (hp:rfOk true (.rangeFunc f ps x y)=true):
  zry P tb nt g L none m (.rangeFunc f ps x y):=by
 intro ho hd acc hs s e h n rr ρ a w hne hr hi hE hD
 simp only [rfOk,Bool.true_and,Bool.and_eq_true] at hp
 simp only [zco,Bool.and_eq_true] at hd
 simp only [lowC] at hr
 cases hcs:lowS [] f with
 | none=>rw [hcs] at hr; exact absurd hr.symm hne
 | some sx=>
 rw [hcs] at hr
 cases hps:ps.toList with
 | nil=>rw [hps] at hr; exact absurd hr.symm hne
 | cons t ts=>
 cases ts with
 | cons t2 ts=>rw [hps] at hr; exact absurd hr.symm hne
 | nil=>
 rw [hps] at hr
 have hps':ps=#[t]:=by rw [← Array.toArray_toList (xs:=ps),hps]
 simp only at hr
 cases htn:Nat.blt t nt with
 | false=>rw [htn] at hr; exact absurd hr.symm hne
 | true=>
 rw [htn,cond_true] at hr
 obtain ⟨Y,hYd⟩:∃ Y:YT,Y=one1 fun v h n=>zvc e (nrmX (fun e h n=>lowC nt g tb y L e h n) (lowC nt g tb x L (putE e (zcc g (some t)) v) h n)):=⟨_,rfl⟩
 have hr':rfX (sx [] e) L e (fun e h n=>nrmX (fun e h n=>lowC nt g tb y L e h n) (lowC nt g tb x L e h n)) (zcc g (some t)) h n=rr:=hr
 have hsub:Sub (zgf [] f acc) g:=((za0 x _).trans (za0 y _)).trans hs
 have hf:=zgk (FitL.nil ρ a) hE (ze5 hsub) sx hcs
 obtain ⟨gf,caps,hv⟩:∃ gf caps,sx [] e=.func gf caps:=by
  cases hv:sx [] e<;>rw [hv] at hr'<;>first | exact ⟨_,_,rfl⟩ | exact absurd hr'.symm hne
 rw [hv] at hr' hf
 simp only [rel] at hf
 obtain ⟨cs,hfe,hcaps⟩:=hf
 have hr2:iterX L.call Y caps e h n (L.iter gf)=rr:=by rw [hYd]; exact hr'
 cases hlg:L.iter gf with
 | none=>rw [hlg] at hr2; exact absurd hr2.symm hne
 | some lg=>
 rw [hlg] at hr2
 obtain ⟨hok,hr3⟩:=zab hr2 hne
 obtain ⟨hlen,hr4⟩:=zab hr3 hne
 obtain ⟨hnt',hr5⟩:=zab hr4 hne
 rw [Nat.ble_eq,zfk] at hlen
 rw [Nat.blt_eq] at hnt'
 rw [zam] at hr5
 obtain ⟨gfn,gc,hg1,hg2,hg3,hg4,hg5,hg6⟩:=hit gf lg hlg
 unfold ztf at hg4
 rw [hg2] at hg4
 cases hg4
 simp only [Bool.and_eq_true] at hok
 obtain ⟨hgn,hgr⟩:=hok
 rw [Nat.blt_eq] at hgn
 have hcall:zgx P gf:=⟨gfn,hg1,hg3,by rw [hg2]; rfl⟩
 simp only at hr5
 obtain ⟨hG1,hD1,hnD1⟩:=Goes.alloc hi (.deferred (some []))
 refine wpIn_rangeFunc fun fn _=>?_
 let rec_:LoopState→Option Code→Loop:=fun st pe=>{ state:=st,pending:=pe,fn,tmps:=a.tmps,params:=ps,assign:=x,body:=y,defers:=w.heap.size }
 obtain ⟨hG2,hL2,hnL2⟩:=Goes.alloc hG1.inv (.loop (rec_ .ready none))
 have hszl:(w.alloc (.deferred (some []))).heap.size=w.heap.size + 1:=by simp
 rw [hszl] at hL2 hnL2
 obtain ⟨hD2,hnD2⟩:=hG2.held hD1 hnD1
 let W2:=(w.alloc (.deferred (some []))).alloc (.loop (rec_ .ready none))
 have hH0:Held ρ h n w (w.heap.size + 1) w.heap.size (.loop (rec_ .ready none)) ρ h n W2:=⟨hG1.trans hG2,hL2,hnL2,hD2,hnD2⟩
 have hgh:=hH0.goes.inv.ghost (n:=n) (by unfold top; omega) (zh9 hL2)
 have hlD:w.heap.size≠w.heap.size + 1:=by omega
 let HPp:HT:=fun p σ h' n' W=>Held ρ h n w (w.heap.size + 1) w.heap.size (.loop (rec_ (staP p) (jmpP p))) σ h' n' W∧σ n=some (w.heap.size + 1,0)
 have hH:HOk (w.heap.size + 1) n HPp:=⟨fun p σ h n W hP=>hP.1.goes.inv,fun p σ h n W hP=>hP.2,fun p σ h n W σ' h' n' W' hP hG=>⟨hP.1.next hG,hG.le.at_ _ _ hP.2⟩⟩
 have hP0:HPp 0 (ρ.ext n (w.heap.size + 1,0) (0,0)) h (n + 1) W2:=⟨hH0.next hgh,Mp.ext_same _ _ _ _⟩
 have hY:YOk P (m - 1 - 1) (w.heap.size + 1) HPp Y:=by
  intro args h' n' r σ W1 as hyr hrne h2 has
  rw [hYd] at hyr
  cases args with
  | nil=>exact absurd hyr.symm hrne
  | cons v args=>
  cases args with
  | cons _ _=>exact absurd hyr.symm hrne
  | nil=>
  have hyr':zvc e (nrmX (fun e h n=>lowC nt g tb y L e h n) (lowC nt g tb x L (putE e (zcc g (some t)) v) h' n'))=r:=hyr
  simp only [relS] at has
  obtain ⟨rv,_,rfl,q2,rfl⟩:=has
  obtain ⟨r1,hr1⟩:∃ r1,lowC nt g tb x L (putE e (zcc g (some t)) v) h' n'=r1:=⟨_,rfl⟩
  rw [hr1] at hyr'
  have hn1:nrmX (fun e h n=>lowC nt g tb y L e h n) r1≠.fail:=fun h0=>by rw [h0] at hyr'; exact hrne hyr'.symm
  obtain ⟨e1,k1,n1,hr1'⟩:=zv0 hn1
  rw [hr1'] at hyr'
  have h1':zvc e (lowC nt g tb y L e1 k1 n1)=r:=hyr'
  refine ⟨fn,_,x,y,run_yield h2.1.loop (by simp [rec_,hps']),?_⟩
  have hfold:((rec_ (staP 0) (jmpP 0)).params.zip [rv].toArray).foldl (fun tmps (t,a)=>tmps.setIfInBounds t a) (rec_ (staP 0) (jmpP 0)).tmps=(a.put (some t) rv).tmps:=by
   simp [rec_,hps',Act.put]
  rw [hfold]
  have hEr:FitE nt g σ (putE e (zcc g (some t)) v) { tmps:=(a.put (some t) rv).tmps,defers:=[] }:=by
   have:=FitE.put h2.1.goes.le hnt hE (dst:=some t) htn q2
   exact ⟨this.slot,this.size,this.st⟩
  refine roundIn_of_wpIn trivial ?_
  show x.wpIn (FR (some (w.heap.size + 1))) (m - 1 - 1) P _ _ _
  refine wpIn_mono (zc9 hm hc hnt (o:=false) (fun _ _ _ _ hf=>by simp [rfOk] at hf) x hp.1 ho.1 hd.1 _ ((za0 y _).trans hs) 0 _ h' n' r1 σ _ W1 (by rw [hr1']; simp) hr1 h2.1.goes.inv hEr (Defs.nil (Nat.zero_le _))) fun ex a1 w1 hpx=>?_
  obtain ⟨e1',h3,n3,τ,g1,g2,g3,g4⟩:=hpx
  rw [hr1'] at g4
  rcases g4 with ⟨rfl,g4⟩ | ⟨j,rfl,g4⟩ | ⟨rfl,g4⟩
  ·cases g4
   have h3:=h2.1.next g1
   refine ⟨_,run_beginRound h3.loop rfl,?_⟩
   have h4:=h3.put hi.kg (by omega) hlD (.loop (rec_ .busy none))
   show y.wpIn (FR (some (w.heap.size + 1))) (m - 1 - 1) P _ _ _
   obtain ⟨r2,hr2⟩:∃ r2,lowC nt g tb y L e1 k1 n1=r2:=⟨_,rfl⟩
   rw [hr2] at h1'
   have hr2n:r2≠.fail:=fun h0=>by rw [h0] at h1'; exact hrne h1'.symm
   refine wpIn_mono (zc9 hm hc hnt (o:=false) (fun _ _ _ _ hf=>by simp [rfOk] at hf) y hp.2 ho.2 hd.2 _ hs 0 e1 k1 n1 r2 τ a1 _ hr2n hr2 h4.goes.inv g2 (g3.put h3.loop _)) fun ex a2 w2 hpy=>?_
   obtain ⟨e2,h5,n5,υ,f1,f2,f3,f4⟩:=hpy
   have h6:=h4.next f1
   have hle:σ.le υ:=Mp.le_trans g1.le f1.le
   have hb6:υ n=some (w.heap.size + 1,0):=hle.at_ _ _ h2.2
   rcases f4 with ⟨rfl,f4⟩ | ⟨j,rfl,f4⟩ | ⟨rfl,f4⟩
   ·rw [f4] at h1'
    exact ⟨_,_,run_endRound none h6.loop,e,h5,n5,υ,hle,.inl ⟨h1'.symm,rfl,h6.put hi.kg (by omega) hlD _,hb6⟩⟩
   ·rw [f4] at h1'
    exact ⟨_,_,run_endRound (some (.exit j)) h6.loop,e,h5,n5,υ,hle,.inr (.inl ⟨j,h1'.symm,rfl,h6.put hi.kg (by omega) hlD _,hb6⟩)⟩
   ·rw [f4] at h1'
    exact ⟨_,_,run_endRound (some .ret) h6.loop,e,h5,n5,υ,hle,.inr (.inr ⟨h1'.symm,rfl,h6.put hi.kg (by omega) hlD _,hb6⟩)⟩
  ·cases g4
  ·cases g4
 refine ⟨w.heap.size + 1,[mkD w.heap.size],W2,{ target:=.fn (.func gf) cs,args:=#[.func (.yield (w.heap.size + 1)) #[] #[]] },W2,gf,#[.func (.yield (w.heap.size + 1)) #[] #[]] ++ cs,W2,run_enterLoop_outer _ _ _ _ _,?_,fun _ _=>trivial,?_,fun hh=>(by cases hh),?_⟩
 ·simp only [resolve,hfe]
  simp [go_sem]
 ·simp [invoke,go_sem,zid hcall]
 ·
  have hargs:relS (ρ.ext n (w.heap.size + 1,0) (0,0)) (.yld n :: toL caps) (.func (.yield (w.heap.size + 1)) #[] #[] :: cs.toList):=by
   simp only [relS]
   exact ⟨_,_,rfl,by simp only [rel]; exact ⟨_,Mp.ext_same _ _ _ _,rfl⟩,zt8 (zfq (Mp.ext_le hi.fresh) _ _ hcaps)⟩
  have hE0:=zp0 (nt:=gfn.ntmps) (g:=zc2 gc []) hgh.inv.st hargs (by simp only [List.length_cons]; omega)
  have harr:(Value.func (.yield (w.heap.size + 1)) #[] #[] :: cs.toList).toArray=#[.func (.yield (w.heap.size + 1)) #[] #[]] ++ cs:=by
   apply Array.ext'
   simp
  rw [harr] at hE0
  obtain ⟨gr,hgr1⟩:∃ gr,zd7 gfn.ntmps (zc2 gc []) tb gc L.call Y n (zhu (.yld n :: toL caps) 1 .nil) h (n + 1) 0=gr:=⟨_,rfl⟩
  rw [hgr1] at hr5
  have hgne:gr≠.fail:=fun h0=>by rw [h0] at hr5; exact hne hr5.symm
  refine callsIn_of_wp_marks hg1 hg2 trivial (wpIn_mono (zd0 hm hc (by omega) hY hH gc hg5 hg6 [] (Sub.refl _) _ h (n + 1) 0 gr _ _ W2 hgne hgr1 hP0 hE0 rfl) fun ex a' W' hpg=>?_)
  obtain ⟨e',h',n',p',σ,k1,k2,k3,k4⟩:=hpg
  have hres:(results gfn a'.tmps).run P W'=.ok (.tuple #[]) W':=by
   have:gfn.results=#[]:=by simpa using hgr
   simp [results,this]
  obtain ⟨e2,h2',n2,p2,hcase,hj⟩:=zvh hr5 hne
  have fin:∀ {o:Obj} {σ:Mp} {h':H} {n':Nat} {W:World},Held ρ h n w (w.heap.size + 1) w.heap.size o σ h' n' W→Defs s σ h' W ([mkD w.heap.size] ++ a.defers):=fun hH=>by
   refine (hD.goes hH.goes).cons hD.1 hH.defs hH.ndefs fun d hd e=>?_
   obtain ⟨_,bs,q1,_,q3⟩:=hD
   rw [q1] at hd
   obtain ⟨b,hb,rfl⟩:=List.mem_map.1 hd
   have:b=w.heap.size:=by injection e with e1 e2; injection e1
   have:=zh9 (q3 b hb).2.1
   omega
  have key:h'=h2'∧n'=n2∧p'=p2→rangePost (FR none) m P (w.heap.size + 1) (PostY nt g s ρ h n w rr) { a with defers:=[mkD w.heap.size] ++ a.defers } (.returned (.tuple #[])) W':=by
   rintro ⟨rfl,rfl,rfl⟩
   have hnb:(rec_ (staP p') (jmpP p')).state≠.busy:=zz2 p'
   obtain ⟨W4,hW4⟩:∃ W4,W'.putObj (w.heap.size + 1) (.loop { rec_ (staP p') (jmpP p') with state:=.exhausted })=W4:=⟨_,rfl⟩
   have h4:Held ρ h n w (w.heap.size + 1) w.heap.size (.loop { rec_ (staP p') (jmpP p') with state:=.exhausted }) σ h' n' W4:=by
    rw [← hW4]; exact k1.1.put hi.kg (by omega) hlD _
   have hE':FitE nt g σ e { a with defers:=[mkD w.heap.size] ++ a.defers }:=⟨fun t ht=>zba h4.goes.le _ _ (hE.slot t ht),hE.size,h4.goes.inv.st⟩
   refine ⟨jmpP p',W4,by rw [← hW4]; exact run_endLoop k1.1.loop hnb,?_⟩
   rcases zta hj with ⟨q1,q2⟩ | ⟨q1,q2⟩ | ⟨id,q1,q2⟩
   ·rw [q1]
    exact ⟨e,h',n',σ,h4.goes,hE',fin h4,.inl ⟨rfl,q2⟩⟩
   ·rw [q1]
    exact wpIn_ret ⟨e,h',n',σ,h4.goes,hE',fin h4,.inr (.inr ⟨rfl,q2⟩)⟩
   ·rw [q1]
    exact wpIn_exit ⟨e,h',n',σ,h4.goes,hE',fin h4,.inr (.inl ⟨id,rfl,q2⟩)⟩
  rcases k4 with ⟨rfl,k4⟩ | ⟨j,rfl,k4⟩ | ⟨rfl,k4⟩
  ·show LeavesInM (FR none) (m - 1) P gfn a'.tmps _ a'.defers .returning W'
   rw [k3]
   refine ⟨_,hres,key ?_⟩
   rw [k4] at hcase
   rcases hcase with hcase | hcase
   ·injection hcase with _ e1 e2 e3; exact ⟨e1,e2,e3⟩
   ·cases hcase
  ·rw [k4] at hcase
   rcases hcase with hcase | hcase<;>cases hcase
  ·show LeavesInM (FR none) (m - 1) P gfn a'.tmps _ a'.defers .returning W'
   rw [k3]
   refine ⟨_,hres,key ?_⟩
   rw [k4] at hcase
   rcases hcase with hcase | hcase
   ·cases hcase
   ·injection hcase with _ e1 e2 e3; exact ⟨e1,e2,e3⟩
end
end
end Go.VE
namespace Go.VE
noncomputable section
open Go
section
variable {P:Program} {tb:Tb}
def resV (tmps:Array Value):ResultVar→Sem Value
 | .tmp t=>pure (tmps.getD t undef)
 | .cell a t=>do loadVar t (← asAddr (tmps.getD a undef))
def zvu (g:List Nat):ResultVar→Prop
 | .tmp t=>memN t g=true
 | .cell t _=>memN t g=true
theorem zud (hT:TbOk P tb) {nt:Nat} {g:List Nat} {ρ:Mp} {e:Env} {h:H} {n:Nat} {a:Act} {w:World} (hi:Inv ρ h n w) (hE:FitE nt g ρ e a) {r:ResultVar} {lr:LRes} (hl:zgq tb r=some lr) (hk:zvu g r) {k:K} {rr:RR} (hne:rr≠.fail)
  (hr:zgg e h n lr k=rr):Val0 P (resV a.tmps r) ρ h n w k rr:=by
 cases r with
 | tmp t=>cases hl; exact .of hr (by simp [resV]) (hE.slot t hk)
 | cell t ty=>
  have key:Val0 P (Instr.loadAt ty (a.tmps.getD t undef)) ρ h n w k rr∧∃ b,a.tmps.getD t undef=.pointer (some b):=by
   simp only [zgq] at hl
   cases hu:und tb ty with
   | invalid=>rw [hu] at hl; cases hl
   | _=>
    obtain ⟨h1,i,h2,h3⟩:=hT.und hu (by simp)
    rw [hu] at hl
    simp only at hl
    have hsz:size tb ty=i.size:=by unfold Go.VE.size; rw [h2]
    have hag:isAg tb ty=aggD (und tb ty):=by unfold isAg; rw [hu]; rfl
    rw [hag,hu] at hl
    simp only [aggD] at hl
    cases hl
    simp only [zgg,cond_true,cond_false] at hr
    have hp:∃ b o,sT (t + 1) [] e=.ptr b o:=by
     first
     | (obtain ⟨b,o,e1,_⟩:=zbu hr hne; exact ⟨b,o,e1⟩)
    obtain ⟨b,o,hp⟩:=hp
    have hs:=hE.slot t hk
    have hs':rel ρ (sT (t + 1) [] e) (a.tmps.getD t undef):=hs
    refine ⟨?_,?_⟩
    ·first
     | exact zf7 hi hne hs' h1 rfl hr
     | exact zlb hi hne hs' h1 rfl h3 (by rw [← hsz]; exact hr)
    ·rw [hp] at hs'
     obtain ⟨r,o',_,e1⟩:=zca hs'
     exact ⟨_,e1⟩
  obtain ⟨⟨v,rv,h1,h2,h3⟩,b,hb⟩:=key
  refine ⟨v,rv,h1,?_,h3⟩
  simp only [resV]
  rw [hb] at h2 ⊢
  simpa [Instr.loadAt,Instr.sureAddr,asAddr] using h2
theorem zuc (hT:TbOk P tb) {nt:Nat} {g:List Nat} {ρ:Mp} {e:Env} {h:H} {n:Nat} {a:Act} {w:World} (hi:Inv ρ h n w) (hE:FitE nt g ρ e a) {rr:RR} (hne:rr≠.fail):
  ∀ (rs:List ResultVar) (lrs:List LRes) (k:AV→RR),zfa tb rs=some lrs→(∀ r ∈ rs,zvu g r)→znq e h n lrs k=rr→∃ v vs,k v=rr∧(rs.mapM (resV a.tmps)).run P w=.ok vs w∧relL ρ v vs∧vs.length=rs.length
 | [],lrs,k,hl,_,hr=>by
  cases hl
  exact ⟨.nl,[],hr,by simp,by simp only [relL],rfl⟩
 | r :: rs,lrs,k,hl,hk,hr=>by
  simp only [zfa] at hl
  cases h1:zgq tb r with
  | none=>rw [h1] at hl; cases hl
  | some lr=>
   cases h2:zfa tb rs with
   | none=>rw [h1,h2] at hl; cases hl
   | some l=>
    rw [h1,h2] at hl; cases hl
    have hr':(zgg e h n lr fun v _ _=>znq e h n l fun vs=>k (.cons v vs))=rr:=hr
    obtain ⟨v,rv,g1,g2,g3⟩:=zud hT hi hE h1 (hk r List.mem_cons_self) hne hr'
    obtain ⟨u,vs,g4,g5,g6,g7⟩:=zuc hT hi hE hne rs l _ h2 (fun q hq=>hk q (List.mem_cons_of_mem _ hq)) g1
    refine ⟨.cons v u,rv :: vs,g4,?_,?_,by simp [g7]⟩
    ·rw [List.mapM_cons]
     simp [g2,g5]
    ·simp only [relL]; exact ⟨rv,vs,rfl,g3,g6⟩
end
end
end Go.VE
namespace Go.VE
noncomputable section
open Go
theorem zes:∀ (l:List ResultVar) (acc:List Nat),Sub acc (zj1 l acc)
 | [],_=>Sub.refl _
 | .tmp t :: l,acc=>(zlh t acc).trans (zes l _)
 | .cell t _ :: l,acc=>(zlh t acc).trans (zes l _)
theorem zgt:∀ {l:List ResultVar} {acc g:List Nat},Sub (zj1 l acc) g→∀ r ∈ l,zvu g r
 | [],_,_,_,r,hr=>by cases hr
 | .tmp t :: l,acc,g,h,r,hr=>by
  rcases List.mem_cons.1 hr with rfl | hr
  ·exact ((zes l _).trans h) t (zlg t acc)
  ·exact zgt (l:=l) (acc:=addN t acc) h r hr
 | .cell t ty :: l,acc,g,h,r,hr=>by
  rcases List.mem_cons.1 hr with rfl | hr
  ·exact ((zes l _).trans h) t (zlg t acc)
  ·exact zgt (l:=l) (acc:=addN t acc) h r hr
section
variable {P:Program} {tb:Tb}
theorem zzw (hT:TbOk P tb) {nt:Nat} {g:List Nat} {ρ:Mp} {e:Env} {h:H} {n:Nat} {a:Act} {w:World} (hi:Inv ρ h n w) (hE:FitE nt g ρ e a) {rr:RR} (hne:rr≠.fail) {fn:Func} {lrs:List LRes} {k:K}
  (hl:zfa tb fn.results.toList=some lrs) (hk:∀ r ∈ fn.results.toList,zvu g r) (hr:resK e h n lrs k=rr):Val0 P (results fn a.tmps) ρ h n w k rr:=by
 have hres:results fn a.tmps=(fn.results.mapM (resV a.tmps) >>= fun vs=>pure (if h:vs.size=1 then vs[0] else .tuple vs)):=by
  unfold results
  congr 1
 have hrun:∀ vs,(fn.results.toList.mapM (resV a.tmps)).run P w=.ok vs w→(results fn a.tmps).run P w=.ok (if h:vs.toArray.size=1 then vs.toArray[0] else .tuple vs.toArray) w:=by
  intro vs hvs
  rw [hres]
  have:fn.results.mapM (resV a.tmps)=List.toArray <$> fn.results.toList.mapM (resV a.tmps):=by
   conv=>lhs; rw [← Array.toArray_toList (xs:=fn.results)]
   rw [List.mapM_toArray]
  rw [this]
  simp [hvs]
 have hnot1:(∀ r,lrs≠[r])→(znq e h n lrs fun vs=>k (.tup vs) h n)=rr→Val0 P (results fn a.tmps) ρ h n w k rr:=by
  intro h1 h2
  obtain ⟨v,vs,g1,g2,g3,g4⟩:=zuc hT hi hE hne _ _ _ hl hk h2
  refine .of g1 (hrun vs g2) ?_
  have hlen:fn.results.toList.length≠1:=by
   intro h5
   cases hrs:fn.results.toList with
   | nil=>rw [hrs] at h5; cases h5
   | cons r l=>
    rw [hrs] at h5 hl
    have:l=[]:=by cases l<;>simp_all
    subst this
    simp only [zfa] at hl
    cases h6:zgq tb r with
    | none=>rw [h6] at hl; cases hl
    | some lr=>rw [h6] at hl; cases hl; exact h1 _ rfl
  rw [dif_neg (by simp; omega)]
  simp only [rel]
  exact ⟨_,rfl,by simpa using g3⟩
 cases lrs with
 | nil=>exact hnot1 (fun r h=>by cases h) hr
 | cons lr l=>
  cases l with
  | cons lr2 l=>exact hnot1 (fun r h=>by cases h) hr
  | nil=>
   cases hrs:fn.results.toList with
   | nil=>rw [hrs] at hl; cases hl
   | cons r l=>
    rw [hrs] at hl hk
    simp only [zfa] at hl
    cases h1:zgq tb r with
    | none=>rw [h1] at hl; cases hl
    | some lr'=>
     cases h2:zfa tb l with
     | none=>rw [h1,h2] at hl; cases hl
     | some l2=>
      rw [h1,h2] at hl; cases hl
      have hl0:l=[]:=by
       cases l with
       | nil=>rfl
       | cons x y=>
        simp only [zfa] at h2
        cases h3:zgq tb x with
        | none=>rw [h3] at h2; cases h2
        | some _=>
         cases h4:zfa tb y with
         | none=>rw [h3,h4] at h2; cases h2
         | some _=>rw [h3,h4] at h2; cases h2
      subst hl0
      obtain ⟨v,rv,g1,g2,g3⟩:=zud hT hi hE h1 (hk r List.mem_cons_self) hne (k:=k) hr
      refine .of g1 ((hrun [rv] ?_).trans ?_) g3
      ·rw [hrs,List.mapM_cons]; simp [g2]
      ·rfl
theorem zm2 {m:Nat} {fn:Func} {tmps:Array Value} {ρ σ:Mp} {h h':H} {n n':Nat} {w0:World} {R:Ending→World→Prop} (hkg:KG≤w0.heap.size)
  (hend:∀ w,Goes ρ h n w0 σ h' n' w→∃ v,(results fn tmps).run P w=.ok v w∧R (.returned v) w):
  ∀ (bs:List Nat) (w:World),bs.Nodup→(∀ b ∈ bs,w0.heap.size≤b∧w.heap[b]?=some (.deferred (some []))∧¬ live σ h' b)→Goes ρ h n w0 σ h' n' w→LeavesInM (FR none) m P fn tmps R (bs.map mkD) .returning w
 | [],w,_,_,hG=>hend w hG
 | b :: bs,w,hnd,hb,hG=>by
  obtain ⟨h1,h2,h3⟩:=hb b List.mem_cons_self
  refine ⟨by simp,.inl ⟨b,_,rfl,run_takeDeferred h2,?_⟩⟩
  refine zm2 hkg hend bs _ (List.nodup_cons.1 hnd).2 (fun c hc=>?_) (hG.putObj hkg h1 h3 _)
  obtain ⟨k1,k2,k3⟩:=hb c (List.mem_cons_of_mem _ hc)
  exact ⟨k1,by rw [World.putObj_heap_other (fun e=>(List.nodup_cons.1 hnd).1 (by rw [← e]; exact hc))]; exact k2,k3⟩
theorem fn_run (hT:TbOk P tb) (hm:P.follows .mixedOrders=true) {f:Nat} {fn:Func} {c:Code} {lf:LF} (hf:P.funcs[f]?=some fn) (hb:fn.body=some c) (hl:lowF tb fn=some lf) (hp:rfOk true c=true) (ho:zgw (zkc P tb) c) (hd:zco tb c=true)
  {L:Lv} (hc:zem P L.call) (hit:zkk P tb L.iter) {args:List AV} {h:H} {n:Nat} {k:K} {rr:RR} (hr:runF L lf args h n k=rr) (hne:rr≠.fail) {ρ:Mp} {w:World} {as:List Value} (hi:Inv ρ h n w) (ha:relS ρ args as):
  Calls P f as.toArray w (zu9 ρ h n w k rr):=by
 unfold lowF at hl
 rw [hb] at hl
 cases hrs:zfa tb fn.results.toList with
 | none=>rw [hrs] at hl; cases hl
 | some rs=>
  rw [hrs] at hl
  simp only at hl
  cases hn:Nat.blt fn.ntmps 255 with
  | false=>rw [hn] at hl; cases hl
  | true=>
   rw [hn] at hl; cases hl
   rw [Nat.blt_eq] at hn
   unfold runF at hr
   obtain ⟨hlen,hr⟩:=zab hr hne
   rw [Nat.ble_eq,zfk] at hlen
   simp only at hr
   have hE:=zp0 (nt:=fn.ntmps) (g:=zj1 fn.results.toList (zc2 c [])) hi.st ha (by omega)
   have hbody:lowC fn.ntmps (zj1 fn.results.toList (zc2 c [])) tb c L (zhu args 1 .nil) h n≠.fail:=by
    intro h0; rw [h0] at hr; exact hne hr.symm
   refine callsIn_FR.1 (callsIn_of_wp_marks (n:=0) hf hb trivial (wpIn_mono (zc9 hm hc (by omega) (o:=true) (rf_ok hm hc hit (by omega)) c hp ho hd [] (zes _ _) w.heap.size (zhu args 1 .nil) h n _ ρ _ w hbody rfl hi hE (Defs.nil (Nat.le_refl _))) fun ex a' w' hpx=>?_))
   obtain ⟨e',h',n',σ,g1,g2,g3,g4⟩:=hpx
   have fin:resK e' h' n' rs k=rr→LeavesInM (FR none) 0 P fn a'.tmps (zu9 ρ h n w k rr) a'.defers .returning w':=by
    intro hk
    obtain ⟨_,bs,q1,q2,q3⟩:=g3
    rw [q1]
    refine zm2 hi.kg (fun w2 hG2=>?_) bs w' q2 q3 g1
    obtain ⟨v,rv,k1,k2,k3⟩:=zzw hT hG2.inv g2 hne hrs (zgt (Sub.refl _)) hk
    exact ⟨rv,k2,rv,rfl,v,h',n',σ,k1,hG2,k3⟩
   rcases g4 with ⟨rfl,g4⟩ | ⟨j,rfl,g4⟩ | ⟨rfl,g4⟩
   ·rw [g4] at hr; exact fin hr
   ·rw [g4] at hr; exact absurd hr.symm hne
   ·rw [g4] at hr; exact fin hr
structure CxOk (P:Program) (tb:Tb) (cx:Cx):Prop where
 code : ∀ f lf, cx.code f = some lf → ∃ fn c, P.funcs[f]? = some fn ∧ fn.body = some c ∧ (fn.name == "runtime.NumGoroutine") = false ∧ lowF tb fn = some lf ∧ rfOk true c = true ∧ zgw (zkc P tb) c ∧ zco tb c = true
 iter:zkk P tb cx.iter
 intr:∀ f i,cx.intr f=some i→∀ (args:List AV) (h:H) (n:Nat) (k:K) (rr:RR),i args h n k=rr→rr≠.fail→CallLaw P f args h n k rr
theorem lv_ok (hT:TbOk P tb) (hm:P.follows .mixedOrders=true) {cx:Cx} (hx:CxOk P tb cx):∀ d,zem P (lv cx d).call
 | 0=>fun f args h n k rr hr hne=>absurd hr.symm hne
 | d + 1=>fun f args h n k rr hr hne=>by
  have hr':zpv args h n k (zpu (lv cx d) args h n k (cx.code f)) (cx.intr f)=rr:=hr
  cases hin:cx.intr f with
  | some i=>rw [hin] at hr'; exact hx.intr f i hin args h n k rr hr' hne
  | none=>
   rw [hin] at hr'
   cases hcd:cx.code f with
   | none=>rw [hcd] at hr'; exact absurd hr'.symm hne
   | some lf=>
    rw [hcd] at hr'
    obtain ⟨fn,c,h1,h2,hn,h3,h4,h5,h6⟩:=hx.code f lf hcd
    exact .inl ⟨⟨fn,h1,hn,by rw [h2]; rfl⟩,fun ρ w as hi ha=>fn_run hT hm h1 h2 h3 h4 h5 h6 (lv_ok hT hm hx d) (by rw [zy7]; exact hx.iter) hr' hne hi ha⟩
end
end
end Go.VE
namespace Go.VE
noncomputable section
open Go
section
variable {P:Program} {tb:Tb} {o:Oper}
theorem za5 {a:Act} {ρ:Mp} {h:H} {n:Nat} {w:World} {k:K} {rr:RR} {Q:Exit→Act→World→Prop} {s:Sem Value} (hx:execOp a.eval o=(do pure (Next.value (← s)))) (hv:Val P s ρ h n w k rr):
  o.wp P a w (zel ρ h n w k rr a o.dst) Q:=by
 unfold Oper.wp
 obtain ⟨v,h',n',σ,w',rv,h1,h2,h3,h4⟩:=hv
 rw [hx]
 simp only [Sem.run_bind,h2,Result.andThen_ok,Sem.run_pure,Oper.upon]
 exact ⟨rv,rfl,v,h',n',σ,h1,h3,h4⟩
theorem zx5 {a:Act} {ρ:Mp} {h:H} {n:Nat} {w:World} {k:K} {rr:RR} {Q:Exit→Act→World→Prop} {s:Sem Unit} (hx:execOp a.eval o=(do s; pure Next.skip)) (hv:Unt P s ρ h n w k rr):
  o.wp P a w (zel ρ h n w k rr a o.dst) Q:=by
 unfold Oper.wp
 obtain ⟨h',n',σ,w',h1,h2,h3⟩:=hv
 rw [hx]
 simp only [Sem.run_bind,h2,Result.andThen_ok,Sem.run_pure,Oper.upon]
 exact ⟨undef,rfl,.undef,h',n',σ,h1,h3,zd4 σ⟩
theorem zqw {a:Act} {ρ:Mp} {h:H} {n:Nat} {w:World} {k:K} {rr:RR} {Q:Exit→Act→World→Prop} {v:AV} {rv:Value} (hi:Inv ρ h n w) (hx:(execOp a.eval o).run P w=.ok (.value rv) w) (hk:k v h n=rr) (hv:rel ρ v rv):
  o.wp P a w (zel ρ h n w k rr a o.dst) Q:=by
 unfold Oper.wp
 rw [hx]
 exact ⟨rv,rfl,v,h,n,ρ,hk,Goes.refl hi,hv⟩
theorem za7 {ds:List (Option Nat)} {x:Operand} {f:Sx→Op'} {call:zbc} {ls:List AV} {e:Env} {h:H} {n:Nat} {k:K} {rr:RR} (hr:ok1 ds x f call ls e h n k=rr) (hne:rr≠.fail):∃ s,lowS ds x=some s∧f s call ls e h n k=rr:=by
 unfold ok1 at hr
 cases hs:lowS ds x with
 | none=>rw [hs] at hr; exact absurd hr.symm hne
 | some s=>rw [hs] at hr; exact ⟨s,rfl,hr⟩
theorem zb9 {ds:List (Option Nat)} {x y:Operand} {f:Sx→Sx→Op'} {call:zbc} {ls:List AV} {e:Env} {h:H} {n:Nat} {k:K} {rr:RR} (hr:ok2 ds x y f call ls e h n k=rr) (hne:rr≠.fail):∃ s t,lowS ds x=some s∧lowS ds y=some t∧f s t call ls e h n k=rr:=by
 unfold ok2 at hr
 cases hs:lowS ds x with
 | none=>rw [hs] at hr; exact absurd hr.symm hne
 | some s=>
  cases ht:lowS ds y with
  | none=>rw [hs,ht] at hr; exact absurd hr.symm hne
  | some t=>rw [hs,ht] at hr; exact ⟨s,t,rfl,rfl,hr⟩
theorem ztp {ds:List (Option Nat)} {x y z:Operand} {f:Sx→Sx→Sx→Op'} {call:zbc} {ls:List AV} {e:Env} {h:H} {n:Nat} {k:K} {rr:RR} (hr:ok3 ds x y z f call ls e h n k=rr) (hne:rr≠.fail):∃ s t u,lowS ds x=some s∧lowS ds y=some t∧lowS ds z=some u∧f s t u call ls e h n k=rr:=by
 unfold ok3 at hr
 cases hs:lowS ds x with
 | none=>rw [hs] at hr; exact absurd hr.symm hne
 | some s=>
  cases ht:lowS ds y with
  | none=>rw [hs,ht] at hr; exact absurd hr.symm hne
  | some t=>
   cases hu:lowS ds z with
   | none=>rw [hs,ht,hu] at hr; exact absurd hr.symm hne
   | some u=>rw [hs,ht,hu] at hr; exact ⟨s,t,u,rfl,rfl,rfl,hr⟩
theorem ztt {x:Operand} (hop:o.op=.move x∨o.op=.assign x):OpOk P tb o:=by
 intro ds ls e a ρ h n w call k rr Q hc hf hi hr hne
 have hr':ok1 ds x oMv call ls e h n k=rr:=by rcases hop with hop | hop<;>rw [hop] at hr<;>exact hr
 have hx:x ∈ o.op.operands:=by rcases hop with hop | hop<;>rw [hop]<;>simp [Op.operands]
 obtain ⟨s,hs,hk⟩:=za7 hr' hne
 refine zqw hi (rv:=a.eval x) ?_ hk (hf x hx s hs)
 rcases hop with hop | hop<;>simp [execOp,hop]
theorem zo0 {x:Operand} (hop:o.op=.nilCheck x):OpOk P tb o:=by
 intro ds ls e a ρ h n w call k rr Q hc hf hi hr hne
 rw [hop] at hr
 obtain ⟨s,hs,hk⟩:=za7 hr hne
 have hv:=hf x (by rw [hop]; simp [Op.operands]) s hs
 have hk':zfl (s ls e) h n k=rr:=hk
 generalize s ls e=u at hv hk'
 have fin:∀ rv,a.eval x=rv→(execOp a.eval o).run P w=.ok (.value rv) w→k u h n=rr→o.wp P a w (zel ρ h n w k rr a o.dst) Q:=fun rv h1 h2 h3=>zqw hi h2 h3 (by rw [← h1]; exact hv)
 cases u<;>try exact absurd hk'.symm hne
 case ptr b off=>
  have hv':=hv
  simp only [rel] at hv'
  obtain ⟨_,_,_,e1⟩:=hv'
  exact fin _ e1 (by simp only [execOp,hop,e1]; rfl) hk'
 case iface t v=>
  have hv':=hv
  simp only [rel] at hv'
  obtain ⟨_,e1,_⟩:=hv'
  exact fin _ e1 (by simp only [execOp,hop,e1]; rfl) hk'
 case func f c=>
  have hv':=hv
  simp only [rel] at hv'
  obtain ⟨_,e1,_⟩:=hv'
  exact fin _ e1 (by simp only [execOp,hop,e1]; rfl) hk'
theorem znc {s:TypeId} {x:Operand} {f:Nat} (hT:TbOk P tb) (hop:o.op=.fieldAddr s x f):OpOk P tb o:=by
 intro ds ls e a ρ h n w call k rr Q hc hf hi hr hne
 rw [hop] at hr
 simp only [zbb] at hr
 cases hu:und tb s with
 | struct fs=>
  rw [hu] at hr
  simp only at hr
  rw [zc5,Array.getElem?_toList] at hr
  cases hfd:fs[f]? with
  | none=>rw [hfd] at hr; exact absurd hr.symm hne
  | some fd=>
   rw [hfd] at hr
   simp only at hr
   cases hz:Nat.beq (size tb fd.type) 0 with
   | true=>rw [hz] at hr; exact absurd hr.symm hne
   | false=>
    rw [hz,cond_false] at hr
    obtain ⟨sx,hs,hk⟩:=za7 hr hne
    have hft:∃ ft,P.info? fd.type=some ft∧ft.size≠0:=by
     unfold size at hz
     cases hg:tb.types.get (fd.type + 1) with
     | none=>rw [hg] at hz; cases hz
     | some ft=>rw [hg] at hz; exact ⟨ft,hT.info _ _ hg,fun h0=>by simp only at hz; rw [h0] at hz; cases hz⟩
    obtain ⟨ft,g1,g2⟩:=hft
    exact za5 (by simp only [execOp,hop]) (zuv hi hne (hf x (by rw [hop]; simp [Op.operands]) sx hs) (hT.und hu (by simp)).1 hfd g1 g2 hk)
 | _=>rw [hu] at hr; exact absurd hr.symm hne
theorem zzf {t:TypeId} {x:Operand} (hT:TbOk P tb) (hop:o.op=.load t x):OpOk P tb o:=by
 intro ds ls e a ρ h n w call k rr Q hc hf hi hr hne
 rw [hop] at hr
 simp only [zbb] at hr
 have hxo:x ∈ o.op.operands:=by rw [hop]; simp [Op.operands]
 by_cases hinv:und tb t=.invalid
 ·rw [hinv] at hr; exact absurd hr.symm hne
 ·obtain ⟨h1,i,h2,h3⟩:=hT.und rfl hinv
  have hr':(bif isAg tb t then ok1 ds x (zbs (size tb t)) else ok1 ds x zaf) call ls e h n k=rr:=by
   revert hr hinv
   cases und tb t<;>intro hr hinv<;>first | exact hr | exact absurd rfl hinv
  have hsz:size tb t=i.size:=by unfold size; rw [h2]
  have hag:isAg tb t=aggD (und tb t):=by unfold isAg; cases und tb t<;>rfl
  rw [hag] at hr'
  cases hd:aggD (und tb t) with
  | true=>
   rw [hd,cond_true] at hr'
   obtain ⟨sx,hs,hk⟩:=za7 hr' hne
   exact za5 (by simp only [execOp,hop]) (zu1 hi hne (hf x hxo sx hs) h1 hd h3 (by rw [← hsz]; exact hk))
  | false=>
   rw [hd,cond_false] at hr'
   obtain ⟨sx,hs,hk⟩:=za7 hr' hne
   exact za5 (by simp only [execOp,hop]) (zu0 hi hne (hf x hxo sx hs) h1 hd hk)
end
end
end Go.VE
namespace Go.VE
noncomputable section
open Go
section
variable {P:Program} {tb:Tb} {o:Oper}
theorem zy9 {op:BinOp} {t yt:TypeId} {x y:Operand} (hop:o.op=.binOp op t x y yt):x ∈ o.op.operands∧y ∈ o.op.operands:=by rw [hop]; simp [Op.operands]
theorem zk9 (kd:IntKind):upN (zad kd)=upN' (zad kd):=by cases kd<;>rfl
theorem zas {a:Act} {op:BinOp} {t yt:TypeId} {x y:Operand} (hop:o.op=.binOp op t x y yt) (h1:op≠.eql) (h2:op≠.neq) {ρ:Mp} {h:H} {n:Nat} {w:World} {k:K} {rr:RR} {Q:Exit→Act→World→Prop}
  (hv:Val P (binOp op t (a.eval x) (a.eval y)) ρ h n w k rr):o.wp P a w (zel ρ h n w k rr a o.dst) Q:=by
 refine za5 (s:=(do eqGuard op t x y (a.eval x) (a.eval y); binOp op t (a.eval x) (a.eval y))) (by simp only [execOp,hop]) ?_
 obtain ⟨v,h',n',σ,w',rv,g1,g2,g3,g4⟩:=hv
 refine ⟨v,h',n',σ,w',rv,g1,?_,g3,g4⟩
 have:(eqGuard op t x y (a.eval x) (a.eval y)).run P w=.ok () w:=by
  cases op<;>first | exact absurd rfl h1 | exact absurd rfl h2 | simp [eqGuard]
 simp only [Sem.run_bind,this,Result.andThen_ok,g2]
theorem zib {a:Act} {t yt:TypeId} {x y:Operand} {f:AV→AV→Option Bool} (hE:EqOk P t f) {ρ:Mp} {h:H} {n:Nat} {w:World} {k:K} {rr:RR} {Q:Exit→Act→World→Prop} (hi:Inv ρ h n w) (hne:rr≠.fail)
  {u v:AV} (hu:rel ρ u (a.eval x)) (hv:rel ρ v (a.eval y)):(o.op=.binOp .eql t x y yt→kB (f u v) h n k=rr→o.wp P a w (zel ρ h n w k rr a o.dst) Q)∧(o.op=.binOp .neq t x y yt→kN (f u v) h n k=rr→o.wp P a w (zel ρ h n w k rr a o.dst) Q):=by
 refine ⟨fun hop e=>?_,fun hop e=>?_⟩
 ·obtain ⟨c,g1,g2⟩:=zmy e hne
  refine za5 (s:=(do eqGuard .eql t x y (a.eval x) (a.eval y); binOp .eql t (a.eval x) (a.eval y))) (by simp only [execOp,hop]) ?_
  exact .same hi g2 (hE ρ w x y u v _ _ c g1 hu hv).1 (zbr c)
 ·obtain ⟨c,g1,g2⟩:=zxq e hne
  refine za5 (s:=(do eqGuard .neq t x y (a.eval x) (a.eval y); binOp .neq t (a.eval x) (a.eval y))) (by simp only [execOp,hop]) ?_
  exact .same hi g2 (hE ρ w x y u v _ _ c g1 hu hv).2 (zbr !c)
end
end
end Go.VE
namespace Go.VE
noncomputable section
open Go
theorem zpx {P:Program} {tb:Tb} (hT:TbOk P tb) {t:TypeId} {ms:Array (String × TypeId)} (hu:P.underlying t=some (.interface ms)):EqOk P t (zq4 tb):=by
 intro ρ w x y a b ra rb c hb hx hy
 unfold zq4 at hb
 split at hb<;>first | (injection hb with hb; subst hb) | skip
 all_goals
  try simp only [rel] at hx hy
 ·subst hx; obtain ⟨v,rfl,_⟩:=hy
  exact zat (fun op=>by unfold eqGuard; cases op<;>rfl) (fun d=>by unfold Op.equalIn; simp [zac hu]) rfl rfl
 ·subst hy; obtain ⟨v,rfl,_⟩:=hx
  exact zat (fun op=>by unfold eqGuard; cases op<;>rfl) (fun d=>by unfold Op.equalIn; simp [zac hu]) rfl rfl
 ·rename_i s a' z b'
  obtain ⟨v,rfl,hv⟩:=hx
  obtain ⟨u,rfl,hw⟩:=hy
  rw [zay] at hb
  by_cases e:Nat.beq s z=true
  ·rw [if_pos e] at hb
   rw [Nat.beq_eq] at e
   subst e
   unfold eqDyn at hb
   cases hg:tb.types.get (s + 1) with
   | none=>rw [hg] at hb; cases hb
   | some i=>
    rw [hg] at hb
    simp only at hb
    obtain ⟨hcomp,hb⟩:=za3 hb
    cases hd:zj8 tb.types i with
    | int k=>
     rw [hd] at hb
     simp only at hb
     have hus:=(hT.und (t:=s) (d:=.int k) (by unfold und; rw [hg]; exact hd) (by simp)).1
     obtain ⟨i1,a1,e1,j1,b1,e2,hb'⟩:∃ i1 a1,a'=.int i1 a1∧∃ j1 b1,b'=.int j1 b1∧br (Nat.beq i1 (zad k)) (br (Nat.beq j1 (zad k)) (some (Nat.beq a1 b1)) none) none=some c:=by
      unfold eqI at hb
      split at hb
      ·exact ⟨_,_,rfl,_,_,rfl,hb⟩
      ·cases hb
     subst e1; subst e2
     obtain ⟨q1,hb2⟩:=za3 hb'
     obtain ⟨q2,hb3⟩:=za3 hb2
     rw [Nat.beq_eq] at q1 q2
     subst q1; subst q2
     simp only [rel] at hv hw
     obtain ⟨kd1,m1,rfl,r1,r2,r3⟩:=hv
     obtain ⟨kd2,m2,rfl,r4,r5,r6⟩:=hw
     have hk1:kd1=k:=by cases kd1<;>cases k<;>first | rfl | cases r1
     have hk2:kd2=k:=by cases kd2<;>cases k<;>first | rfl | cases r4
     subst hk1; subst hk2
     have hval:(Op.equal t (.iface s (.int kd2 m1)) (.iface s (.int kd2 m2))).run P w=.ok c w:=by
      show (Op.equalIn (9998 + 1 + 1) t _ _).run P w=_
      rw [Op.equalIn]
      simp only [Sem.run_bind,zac hu,Result.andThen_ok,ne_eq,not_true_eq_false,if_false,zch (hT.info s i hg),hcomp,Bool.not_true]
      have:=run_equalIn_int (P:=P) (w:=w) 9998 s kd2 kd2 m1 m2 hus
      have hc2:(m1 == m2)=c:=by
       injection hb3 with hb3
       rw [← hb3,r2,r5,Bool.eq_iff_iff,beq_iff_eq,Nat.beq_eq]
       exact ⟨fun e=>by rw [e],fun e=>zh0 r3 r6 e⟩
      rw [hc2] at this
      simpa using this
     have h1:binOp .eql t (.iface s (.int kd2 m1)) (.iface s (.int kd2 m2))=(do pure (.bool (← Op.equal t (.iface s (.int kd2 m1)) (.iface s (.int kd2 m2))))):=rfl
     have h2:binOp .neq t (.iface s (.int kd2 m1)) (.iface s (.int kd2 m2))=(do pure (.bool (!(← Op.equal t (.iface s (.int kd2 m1)) (.iface s (.int kd2 m2)))))):=rfl
     have hg:∀ op,(eqGuard op t x y (.iface s (.int kd2 m1)) (.iface s (.int kd2 m2))).run P w=.ok () w:=fun op=>by unfold eqGuard; cases op<;>rfl
     rw [h1,h2]
     constructor<;>simp only [Sem.run_bind,hg,Result.andThen_ok,hval,Sem.run_pure]
    | _=>rw [hd] at hb; cases hb
  ·rw [if_neg e] at hb; injection hb with hb; subst hb
   rw [Nat.beq_eq] at e
   exact zat (fun op=>by unfold eqGuard; cases op<;>rfl) (fun d=>by unfold Op.equalIn; simp [zac hu,e]) rfl rfl
 ·cases hb
section
variable {P:Program} {tb:Tb} {o:Oper}
theorem zjb {op op':BinOp} {t:TypeId} {rx ry:Value} {ρ:Mp} {h:H} {n:Nat} {w:World} {k:K} {rr:RR} (he:(binOp op t rx ry).run P w=(binOp op' t ry rx).run P w) (hv:Val P (binOp op' t ry rx) ρ h n w k rr):Val P (binOp op t rx ry) ρ h n w k rr:=by
 obtain ⟨v,h',n',σ,w',rv,g1,g2,g3,g4⟩:=hv
 exact ⟨v,h',n',σ,w',rv,g1,he.trans g2,g3,g4⟩
theorem zsr {kd:IntKind} {x y:AV} {rx ry:Value} {t:TypeId} {ρ:Mp} {w:World} {f:Nat→Nat→RR} {rr:RR} (hx:rel ρ x rx) (hy:rel ρ y ry) (hne:rr≠.fail) (e:int2 (zad kd) y x f=rr):
  (binOp .gtr t rx ry).run P w=(binOp .lss t ry rx).run P w∧(binOp .geq t rx ry).run P w=(binOp .leq t ry rx).run P w:=by
 obtain ⟨a,b,rfl,rfl,_⟩:=zce e hne
 obtain ⟨p,rfl,_⟩:=za6 hx
 obtain ⟨q,rfl,_⟩:=za6 hy
 constructor<;>simp [binOp,Op.intCmp]
theorem zh1:∀ (p q:List UInt8),(!Op.bytesLess p q && !p == q)=Op.bytesLess q p
 | [],[]=>by simp [Op.bytesLess]
 | [],_ :: _=>by simp [Op.bytesLess]
 | _ :: _,[]=>by simp [Op.bytesLess]
 | a :: p,b :: q=>by
  have ih:=zh1 p q
  simp only [Op.bytesLess]
  by_cases e:a=b
  ·subst e
   have hlt:¬ a < a:=by rw [UInt8.lt_iff_toNat_lt]; omega
   simp only [hlt,decide_false,beq_self_eq_true,Bool.true_and,Bool.false_or]
   rw [← ih]
   simp
  ·have hne:a.toNat≠b.toNat:=fun h=>e (UInt8.toNat_inj.1 h)
   have e1:(a == b)=false:=by simp [e]
   have e2:(b == a)=false:=by simp [Ne.symm e]
   have e3:((a :: p) == (b :: q))=false:=by simp [e]
   rw [e1,e2,e3]
   by_cases hlt:a < b
   ·have hn:¬ b < a:=by rw [UInt8.lt_iff_toNat_lt] at hlt ⊢; omega
    simp [hlt,hn]
   ·have hn:b < a:=by rw [UInt8.lt_iff_toNat_lt] at hlt ⊢; omega
    simp [hlt,hn]
theorem zss {x y:AV} {rx ry:Value} {t:TypeId} {ρ:Mp} {w:World} {f:Nat→Nat→Nat→Nat→RR} {rr:RR} (hx:rel ρ x rx) (hy:rel ρ y ry) (hne:rr≠.fail) (e:str2 y x f=rr):
  (binOp .gtr t rx ry).run P w=(binOp .lss t ry rx).run P w∧(binOp .geq t rx ry).run P w=(binOp .leq t ry rx).run P w:=by
 cases x<;>cases y<;>try exact absurd e.symm hne
 simp only [rel] at hx hy
 obtain ⟨p,rfl,_⟩:=hx
 obtain ⟨q,rfl,_⟩:=hy
 constructor
 ·simp [binOp,Op.stringOp,zh1]
 ·simp only [binOp,Op.stringOp]
  rw [← zh1 q.toList p.toList]
  simp
theorem znj {P:Program} {w:World} {t:TypeId} {d:TypeDesc} (hd:P.underlying t=some d) (ha:aggD d=false) {cs:Array Value} {off:Nat} {v:Value} (hv:cs[off]?=some v):(part t cs off).run P w=.ok v w:=by
 unfold part
 simp only [Sem.run_bind,zft hd,Result.andThen_ok,ha,Bool.false_eq_true,if_false,hv,Sem.run_pure]
theorem zvi {P:Program} {w:World} {ρ:Mp} {t:TypeId} {a b:AV} {ra rb:Value} {c:Bool} (hp:P.underlying t=some .string) (hb:eqS a b=some c) (hx:rel ρ a ra) (hy:rel ρ b rb) (d:Nat):(Op.equalIn (d + 1) t ra rb).run P w=.ok c w:=by
 unfold eqS at hb
 split at hb
 ·simp only [rel] at hx hy
  obtain ⟨s,rfl,hs⟩:=hx
  obtain ⟨u,rfl,hu'⟩:=hy
  have hc:c=(s.data.toList == u.data.toList):=by
   injection hb with hb
   rw [← hb,Bool.eq_iff_iff,beq_iff_eq,zl6 hs hu',zay]
   split
   ·rename_i e; rw [Nat.beq_eq] at e; simp [e]
   ·rename_i e; rw [Nat.beq_eq] at e; simp [e]
  rw [run_equalIn_string _ _ _ _ _ hp,hc,ByteArray.toList_eq,ByteArray.toList_eq]
 ·cases hb
theorem tag_eq {P:Program} {tb:Tb} (hT:TbOk P tb) {t tg:Nat} (ht:tag1 tb t=some tg) {ρ:Mp} {a b:AV} {ra rb:Value} {c:Bool} (hb:zoj tg a b=some c) (hx:rel ρ a ra) (hy:rel ρ b rb) {w:World} (d:Nat):
  (∃ u,P.underlying t=some u∧aggD u=false)∧(Op.equalIn (d + 1) t ra rb).run P w=.ok c w:=by
 unfold tag1 at ht
 cases hu:und tb t with
 | bool=>
  rw [hu] at ht; cases ht
  have hp:=(hT.und hu (by simp)).1
  refine ⟨⟨_,hp,rfl⟩,?_⟩
  have e:zoj 9 a b=eqB a b:=rfl
  rw [e] at hb
  unfold eqB at hb
  split at hb
  ·rw [zgz hx,zgz hy,run_equalIn_bool' _ _ _ _ _ hp]
   injection hb with hb
   rw [← hb]
   rename_i x y
   cases x<;>cases y<;>rfl
  ·cases hb
 | string=>
  rw [hu] at ht; cases ht
  have hp:=(hT.und hu (by simp)).1
  refine ⟨⟨_,hp,rfl⟩,?_⟩
  have e:zoj 8 a b=eqS a b:=rfl
  rw [e] at hb
  exact zvi hp hb hx hy d
 | int kd=>
  rw [hu] at ht; cases ht
  have hp:=(hT.und hu (by simp)).1
  refine ⟨⟨_,hp,rfl⟩,?_⟩
  have e:zoj (zad kd) a b=eqI (zad kd) a b:=by cases kd<;>rfl
  rw [e] at hb
  unfold eqI at hb
  split at hb
  ·obtain ⟨h1,hb1⟩:=za3 hb
   obtain ⟨h2,hb2⟩:=za3 hb1
   rw [Nat.beq_eq] at h1 h2; subst h1; subst h2
   obtain ⟨p,rfl,e1,hp'⟩:=za6 hx
   obtain ⟨q,rfl,e2,hq'⟩:=za6 hy
   rw [run_equalIn_int _ _ _ _ _ _ _ hp]
   have:c=(p == q):=by
    injection hb2 with hb3
    rw [← hb3,Bool.eq_iff_iff,Nat.beq_eq,beq_iff_eq,e1,e2]
    exact ⟨fun e=>zh0 hp' hq' e,fun e=>by rw [e]⟩
   rw [this]
  ·cases hb
 | _=>rw [hu] at ht; cases ht
theorem zig {P:Program} {tb:Tb} (hT:TbOk P tb) {ρ:Mp} {w:World} {xs ys:Array Value} (d:Nat):∀ (fs:List Field) (o:Nat) (ts:List Nat) (l m:AV) (c:Bool),znx tb o fs=some ts→eqC ts l m=some c→relL ρ l (xs.toList.drop o)→relL ρ m (ys.toList.drop o)→
  (Op.eqFields (d + 1) xs ys fs).run P w=.ok c w
 | [],o,ts,l,m,c,ht,hb,hx,hy=>by
  simp only [znx] at ht; cases ht
  cases l<;>cases m<;>simp [eqC] at hb
  subst hb; rfl
 | f :: fs,o,ts,l,m,c,ht,hb,hx,hy=>by
  simp only [znx] at ht
  cases hn : (decide (f.name = "_") || !(Nat.beq f.offset o)) with
  | true=>rw [hn] at ht; cases ht
  | false=>
   rw [hn,cond_false] at ht
   rw [Bool.or_eq_false_iff] at hn
   have hname : f.name ≠ "_" := by simpa using hn.1
   have hoff:f.offset=o:=by have:=hn.2; rw [Bool.not_eq_false'] at this; exact zak this
   cases h1:tag1 tb f.type with
   | none=>rw [h1] at ht; cases ht
   | some tg=>
    cases h2:znx tb (o + 1) fs with
    | none=>rw [h1,h2] at ht; cases ht
    | some ts'=>
     rw [h1,h2] at ht; cases ht
     cases l<;>try (simp only [eqC] at hb; cases hb)
     cases m<;>try (simp only [eqC] at hb; cases hb)
     rename_i a l b m
     simp only [relL] at hx hy
     obtain ⟨va,ra,ea,xa,xl⟩:=hx
     obtain ⟨vb,rb,eb,ya,yl⟩:=hy
     have hxo:xs[o]?=some va:=by
      rw [← Array.getElem?_toList,← Nat.add_zero o,← List.getElem?_drop,ea]; rfl
     have hyo:ys[o]?=some vb:=by
      rw [← Array.getElem?_toList,← Nat.add_zero o,← List.getElem?_drop,eb]; rfl
     have hxd:xs.toList.drop (o + 1)=ra:=by rw [← List.drop_drop,ea]; rfl
     have hyd:ys.toList.drop (o + 1)=rb:=by rw [← List.drop_drop,eb]; rfl
     have eC:eqC (tg :: ts') (.cons a l) (.cons b m)=(match zoj tg a b with | some true=>eqC ts' l m | r=>r):=rfl
     rw [eC] at hb
     cases ht2:zoj tg a b with
     | none=>rw [ht2] at hb; cases hb
     | some c0=>
      rw [ht2] at hb
      obtain ⟨⟨u,hu,hag⟩,hE⟩:=tag_eq (w:=w) hT h1 ht2 xa ya d
      simp only [Op.eqFields,ne_eq,hname,not_false_eq_true,if_true,Sem.run_bind,hoff,znj hu hag hxo,znj hu hag hyo,Result.andThen_ok,hE]
      cases c0 with
      | false=>cases hb; rfl
      | true=>
       simp only [Bool.not_true,Bool.false_eq_true,if_false]
       exact zig hT d fs (o + 1) ts' l m c h2 hb (by rw [hxd]; exact xl) (by rw [hyd]; exact yl)
theorem zoi {P:Program} {tb:Tb} (hT:TbOk P tb) {t:TypeId} {fs:Array Field} {ts:List Nat} (hu:P.underlying t=some (.struct fs)) (he:tb.eqf t=true) (ht:znx tb 0 fs.toList=some ts):EqOk P t (eqSt ts):=by
 intro ρ w x y a b ra rb c hb hx hy
 unfold eqSt at hb
 split at hb<;>try (cases hb)
 rename_i l m
 simp only [rel] at hx hy
 obtain ⟨xs,rfl,xl,_⟩:=hx
 obtain ⟨ys,rfl,yl,_⟩:=hy
 obtain ⟨h1,h2⟩:=hT.eqf t he
 have hf:P.fieldsOf t=fs:=by unfold Program.fieldsOf; rw [hu]
 have hE:(Op.equalIn 10000 t (.agg xs) (.agg ys)).run P w=.ok c w:=by
  rw [run_equalIn_struct w 9999 t xs ys (by rw [hf]; exact hu) h1,hf]
  exact zig hT 9998 fs.toList 0 ts l m c ht hb (by simpa using xl) (by simpa using yl)
 constructor
 ·rw [Sem.run_bind,run_eqGuard_agg _ _ _ _ _ _ _ h2,Result.andThen_ok,run_eql_struct,hE]; rfl
 ·rw [Sem.run_bind,run_eqGuard_agg _ _ _ _ _ _ _ h2,Result.andThen_ok,run_neq_struct,hE]; rfl
theorem ok_bin {op:BinOp} {t yt:TypeId} {x y:Operand} (hT:TbOk P tb) (hop:o.op=.binOp op t x y yt):OpOk P tb o:=by
 intro ds ls e a ρ h n w call k rr Q hc hf hi hr hne
 obtain ⟨hx,hy⟩:=zy9 hop
 have hr0:=hr
 rw [hop] at hr
 change zm1 ds tb op t x y call ls e h n k=rr at hr
 unfold zm1 at hr
 have bad:oBad call ls e h n k=rr→o.wp P a w (zel ρ h n w k rr a o.dst) Q:=fun hb=>absurd hb.symm hne
 have two:∀ {f:Sx→Sx→Op'} {G:Prop},ok2 ds x y f call ls e h n k=rr→(∀ s u,rel ρ (s ls e) (a.eval x)→rel ρ (u ls e) (a.eval y)→f s u call ls e h n k=rr→G)→G:=fun h1 h2=>by
  obtain ⟨s,u,g1,g2,g3⟩:=zb9 h1 hne
  exact h2 s u (hf x hx s g1) (hf y hy u g2) g3
 have owt:∀ {f:Sx→Sx→Op'} {G:Prop},ok2 ds y x f call ls e h n k=rr→(∀ s u,rel ρ (s ls e) (a.eval y)→rel ρ (u ls e) (a.eval x)→f s u call ls e h n k=rr→G)→G:=fun h1 h2=>by
  obtain ⟨s,u,g1,g2,g3⟩:=zb9 h1 hne
  exact h2 s u (hf y hy s g1) (hf x hx u g2) g3
 have eqs:∀ {f:AV→AV→Option Bool},EqOk P t f→zki ds op f x y call ls e h n k=rr→o.wp P a w (zel ρ h n w k rr a o.dst) Q:=fun hE hl=>by
  cases op<;>try exact bad hl
  ·exact two hl fun s u h1 h2 hk=>(zib hE hi hne h1 h2).1 hop hk
  ·exact two hl fun s u h1 h2 hk=>(zib hE hi hne h1 h2).2 hop hk
 cases hu:und tb t with
 | int kd=>
  rw [hu] at hr
  simp only at hr
  cases op with
  | add=>exact two hr fun s u h1 h2 hk=>zas hop (by simp) (by simp) (zz4 hi h1 h2 hne hk)
  | sub=>exact two hr fun s u h1 h2 hk=>zas hop (by simp) (by simp) (z0l hi h1 h2 hne hk)
  | mul=>exact two hr fun s u h1 h2 hk=>zas hop (by simp) (by simp) (z0c hi h1 h2 hne hk)
  | quo=>exact two hr fun s u h1 h2 hk=>zas hop (by simp) (by simp) (z0h hi h1 h2 hne hk)
  | rem=>exact two hr fun s u h1 h2 hk=>zas hop (by simp) (by simp) (z1j hi h1 h2 hne hk)
  | and=>exact two hr fun s u h1 h2 hk=>zas hop (by simp) (by simp) (zw2 hi h1 h2 hne hk)
  | or=>exact two hr fun s u h1 h2 hk=>zas hop (by simp) (by simp) (val_or hi h1 h2 hne hk)
  | xor=>exact two hr fun s u h1 h2 hk=>zas hop (by simp) (by simp) (z0p hi h1 h2 hne hk)
  | andNot=>exact two hr fun s u h1 h2 hk=>zas hop (by simp) (by simp) (zz8 hi h1 h2 hne hk)
  | shl=>exact two hr fun s u h1 h2 hk=>zas hop (by simp) (by simp) (z0j hi h1 h2 hne hk)
  | shr=>exact two hr fun s u h1 h2 hk=>zas hop (by simp) (by simp) (zxf hi h1 h2 hne hk)
  | lss=>exact two hr fun s u h1 h2 hk=>zas hop (by simp) (by simp) (zu2 hi h1 h2 hne (by rw [← zk9]; exact hk))
  | leq=>exact two hr fun s u h1 h2 hk=>zas hop (by simp) (by simp) (zuz hi h1 h2 hne (by rw [← zk9]; exact hk))
  | gtr=>exact owt hr fun s u h1 h2 hk=>zas hop (by simp) (by simp) (zjb (zsr h2 h1 hne hk).1 (zu2 hi h1 h2 hne (by rw [← zk9]; exact hk)))
  | geq=>exact owt hr fun s u h1 h2 hk=>zas hop (by simp) (by simp) (zjb (zsr h2 h1 hne hk).2 (zuz hi h1 h2 hne (by rw [← zk9]; exact hk)))
  | eql=>exact two hr fun s u h1 h2 hk=>(zib zpy hi hne h1 h2).1 hop hk
  | neq=>exact two hr fun s u h1 h2 hk=>(zib zpy hi hne h1 h2).2 hop hk
 | string=>
  rw [hu] at hr
  simp only at hr
  cases op with
  | add=>exact two hr fun s u h1 h2 hk=>zas hop (by simp) (by simp) (zz7 hi h1 h2 hne hk)
  | lss=>exact two hr fun s u h1 h2 hk=>zas hop (by simp) (by simp) (zu3 hi h1 h2 hne hk)
  | leq=>exact two hr fun s u h1 h2 hk=>zas hop (by simp) (by simp) (zux hi h1 h2 hne hk)
  | gtr=>exact owt hr fun s u h1 h2 hk=>zas hop (by simp) (by simp) (zjb (zss h2 h1 hne hk).1 (zu3 hi h1 h2 hne hk))
  | geq=>exact owt hr fun s u h1 h2 hk=>zas hop (by simp) (by simp) (zjb (zss h2 h1 hne hk).2 (zux hi h1 h2 hne hk))
  | eql=>exact two hr fun s u h1 h2 hk=>(zib zpz hi hne h1 h2).1 hop hk
  | neq=>exact two hr fun s u h1 h2 hk=>(zib zpz hi hne h1 h2).2 hop hk
  | _=>exact bad hr
 | interface ms=>
  rw [hu] at hr
  have hup:=(hT.und hu (by simp)).1
  simp only at hr
  split at hr
  ·obtain ⟨s,g1,hk⟩:=za7 hr hne
   obtain ⟨c,g2,g3⟩:=zmy (show kB (zin (s ls e)) h n k=rr from hk) hne
   refine za5 (s:=(do eqGuard .eql t x (.const .nilIface) (a.eval x) .nilIface; binOp .eql t (a.eval x) .nilIface)) (by simp only [execOp,hop]; rfl) ?_
   exact .same hi g3 (zpw hup g2 (hf x hx s g1)).1 (zbr c)
  ·obtain ⟨s,g1,hk⟩:=za7 hr hne
   obtain ⟨c,g2,g3⟩:=zxq (show kN (zin (s ls e)) h n k=rr from hk) hne
   refine za5 (s:=(do eqGuard .neq t x (.const .nilIface) (a.eval x) .nilIface; binOp .neq t (a.eval x) .nilIface)) (by simp only [execOp,hop]; rfl) ?_
   exact .same hi g3 (zpw hup g2 (hf x hx s g1)).2 (zbr !c)
  ·exact two hr fun s u h1 h2 hk=>(zib (zpx hT hup) hi hne h1 h2).1 hop hk
  ·exact two hr fun s u h1 h2 hk=>(zib (zpx hT hup) hi hne h1 h2).2 hop hk
  ·exact bad hr
 | struct fs=>
  rw [hu] at hr
  simp only at hr
  cases he:tb.eqf t with
  | false=>rw [he] at hr; exact bad hr
  | true=>
   rw [he,cond_true] at hr
   cases ht:znx tb 0 fs.toList with
   | none=>rw [ht] at hr; exact bad hr
   | some ts=>rw [ht] at hr; exact eqs (zoi hT (hT.und hu (by simp)).1 he ht) hr
 | bool=>rw [hu] at hr; exact eqs (zsi (hT.und hu (by simp)).1) hr
 | pointer e=>
  rw [hu] at hr
  simp only at hr
  cases hz:Nat.blt 0 (size tb e) with
  | false=>rw [hz] at hr; exact eqs (zix (hT.und hu (by simp)).1) hr
  | true=>
   rw [hz,cond_true] at hr
   rw [Nat.blt_eq] at hz
   cases hg:tb.types.get (e + 1) with
   | none=>unfold Go.VE.size at hz; rw [hg] at hz; cases hz
   | some i=>
    have hs:size tb e=i.size:=by unfold Go.VE.size; rw [hg]
    exact eqs (zsk (hT.und hu (by simp)).1 (hT.info _ _ hg) (by omega)) hr
 | slice e=>rw [hu] at hr; exact eqs (zyn (hT.und hu (by simp)).1) hr
 | map e e'=>rw [hu] at hr; exact eqs (zvj (hT.und hu (by simp)).1) hr
 | func p q v=>rw [hu] at hr; exact eqs (zsj (hT.und hu (by simp)).1) hr
 | _=>rw [hu] at hr; exact bad hr
end
end
end Go.VE
