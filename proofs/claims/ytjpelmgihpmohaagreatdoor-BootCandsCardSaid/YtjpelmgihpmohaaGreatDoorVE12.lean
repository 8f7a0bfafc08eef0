/- The evaluator, part 12: definitions and their laws, over any program. No condition. -/
import Derived.StillTail
import Derived.Test.YtjpelmgihpmohaaGreatDoorVE11
set_option linter.all false
namespace Go.VE
noncomputable section
open Go
section
variable {P:Program} {tb:Tb} {nt:Nat} {g:List Nat} {ops:Array Oper} {call:zbc} {e0:Env} {V:Nat→AV} {S:Nat→H × Nat} {a0:Act} {ρ0:Mp} {h0:H} {n0:Nat} {w0:World} {r:Option Nat} {m:Nat}
theorem Goes.adoptX {ρ σ:Mp} {h h':H} {n n':Nat} {w w':World} (hG:Goes ρ h n w σ h' n' w') {r:Nat} {ao:AO} {o:Obj} {y:Nat × Nat} (hkg:KG≤w.heap.size) (hr:w.heap.size≤r) (ho:w'.heap[r]?=some o) (hl:¬ live σ h' r) (hn:n' < top) (hrel:relO (σ.ext n' (r,0) y) y ao (some o) 0):
  Goes ρ h n w (σ.ext n' (r,0) y) (setO h' n' ao) (n' + 1) w':=by
 have hi:=hG.inv
 have hle:σ.le (σ.ext n' (r,0) y):=Mp.ext_le hi.fresh
 have hown:∀ c q z,getO h' c=some q→σ c=some (r,z)→False:=fun c q z hc h2=>by
  rcases Nat.lt_or_ge c KG with hck | hck
  ·have:=hi.st c hck
   rw [h2] at this; cases this; omega
  ·exact hl ⟨c,q,z,hck,hc,h2⟩
 have hrl:r < w'.heap.size:=(Array.getElem?_eq_some_iff.1 ho).1
 refine ⟨⟨fun b p hb=>?_,fun b c p q s x y hb hc h1 h2=>?_,fun b hb=>?_,fun b s x hb=>?_,by unfold top at hn; omega,fun i hk=>hle.at_ _ _ (hi.st i hk)⟩,Mp.le_trans hG.le hle,by have:=hG.next; omega,hG.size,hG.keep,fun s hs hl'=>?_,hG.io⟩
 ·rw [za8 hn] at hb
  split at hb
  ·rename_i e1; subst e1
   cases hb
   exact ⟨_,_,Mp.ext_same _ _ _ _,by rw [ho,Mp.ext_sameG]; exact hrel⟩
  ·rename_i hbn
   obtain ⟨s,x,h1,h2⟩:=hi.obj b p hb
   exact ⟨s,x,hle.at_ _ _ h1,by rw [Mp.ext_otherG hbn]; exact zb1 hle h2⟩
 ·rw [za8 hn] at hb hc
  by_cases hbn:b=n'<;>by_cases hcn:c=n'
  ·rw [hbn,hcn]
  ·subst hbn; rw [Mp.ext_same] at h1; rw [Mp.ext_other hcn] at h2; rw [if_neg hcn] at hc
   cases h1
   exact (hown c q _ hc h2).elim
  ·subst hcn; rw [Mp.ext_other hbn] at h1; rw [Mp.ext_same] at h2; rw [if_neg hbn] at hb
   cases h2
   exact (hown b p _ hb h1).elim
  ·rw [Mp.ext_other hbn] at h1; rw [if_neg hbn] at hb; rw [Mp.ext_other hcn] at h2; rw [if_neg hcn] at hc
   exact hi.inj _ _ _ _ _ _ _ hb hc h1 h2
 ·by_cases hbn:b=n'
  ·omega
  ·rw [Mp.ext_other hbn] at hb
   have:=hi.dom b hb; omega
 ·by_cases hbn:b=n'
  ·subst hbn; rw [Mp.ext_same] at hb; cases hb; exact hrl
  ·rw [Mp.ext_other hbn] at hb
   exact hi.rng _ _ _ hb
 ·obtain ⟨b,p,x,hkb,h1,h2⟩:=hl'
  rw [za8 hn] at h1
  by_cases hbn:b=n'
  ·subst hbn; rw [Mp.ext_same] at h2; cases h2; omega
  ·rw [if_neg hbn] at h1; rw [Mp.ext_other hbn] at h2
   exact hG.lives s hs ⟨b,p,x,hkb,h1,h2⟩
theorem Goes.adopt {ρ σ:Mp} {h h':H} {n n':Nat} {w w':World} (hG:Goes ρ h n w σ h' n' w') {r:Nat} {ao:AO} {o:Obj} {y:Nat × Nat} (hkg:KG≤w.heap.size) (hr:w.heap.size≤r) (ho:w'.heap[r]?=some o) (hl:¬ live σ h' r) (hn:n' < top) (hrel:relO σ y ao (some o) 0):
  Goes ρ h n w (σ.ext n' (r,0) y) (setO h' n' ao) (n' + 1) w':=hG.adoptX hkg hr ho hl hn (zb1 (Mp.ext_le hG.inv.fresh) hrel)
theorem Mp.le_X {ρ:Mp} {l:List PE} {s:Nat→Bool} (ha:zmj l) (hf:∀ p ∈ l,ρ p.nm=none):ρ.le (ρ.X l s):=by
 have:=Mp.X_le (l:=[]) (s:=s) (s':=s) (Mp.le_refl ρ) ha hf (fun p hp=>by cases hp)
 rwa [Mp.X_off (fun p hp=>by cases hp)] at this
structure St (tb:Tb) (ops:Array Oper) (V:Nat→AV) (S:Nat→H × Nat) (ρ0:Mp) (h0:H) (n0:Nat) (w0:World) (listed:Array Bool) (a:Act) (w:World) (q:Nat) (ρ:Mp) (l:List PE):Prop where
 le:q≤ops.size
 ls:∀ c,c < q→zbw tb ops c→listed.getD c false=true
 pd:Pends tb ops S w0 ρ q listed w l
 go:Goes ρ0 h0 n0 w0 ρ (S q).1 (S q).2 w
 vs:∀ i o d,ops[i]?=some o→listed.getD i false=true→o.dst=some d→rel (ρ.X l (Sel ops i)) (V i) (a.tmps.getD d undef)
theorem zjj {c:Nat} (h:zbw tb ops c):c < ops.size:=by
 obtain ⟨o,ho,_⟩:=h
 exact (Array.getElem?_eq_some_iff.1 ho).1
theorem zsg (q:Nat):∀ c,q≤c→zbw tb ops c→∃ c0,q≤c0∧c0≤c∧zbw tb ops c0∧∀ c',q≤c'→c' < c0→¬ zbw tb ops c':=by
 intro c
 induction c using Nat.strongRecOn with
 | _ c ih=>
  intro h1 h2
  by_cases h:∃ c',q≤c'∧c' < c∧zbw tb ops c'
  ·obtain ⟨c',g1,g2,g3⟩:=h
   obtain ⟨c0,k1,k2,k3,k4⟩:=ih c' g2 g1 g3
   exact ⟨c0,k1,by omega,k3,k4⟩
  ·exact ⟨c,h1,Nat.le_refl _,h2,fun c' g1 g2 g3=>h ⟨c',g1,g2,g3⟩⟩
theorem Pends.fresh {listed:Array Bool} {w:World} {ρ:Mp} {q:Nat} {l:List PE} (hP:Pends tb ops S w0 ρ q listed w l) (hF:Facts tb nt g ops call e0 V S) {σ:Mp} {q':Nat} {h:H} {w':World} (hi:Inv σ h (S q').2 w') (hq:∀ p ∈ l,q'≤p.f):∀ p ∈ l,σ p.nm=none:=by
 intro p hp
 cases hx:σ p.nm with
 | none=>rfl
 | some x=>
  exfalso
  have h1:=hi.dom p.nm (by rw [hx]; simp)
  have h2:=hP.each p hp
  have h3:=hF.rise h2.fl (p.f - q') q' (by have:=zjj (zda h2.fl); have:=hq p hp; omega)
  rw [show q' + (p.f - q')=p.f by have:=hq p hp; omega,← h2.nm] at h3
  omega
theorem Pends.apart {listed:Array Bool} {w:World} {ρ:Mp} {q:Nat} {l:List PE} (hP:Pends tb ops S w0 ρ q listed w l) (hF:Facts tb nt g ops call e0 V S):zmj l:=by
 have lt:∀ p ∈ l,∀ p' ∈ l,p.f < p'.f→p.nm < p'.nm:=fun p hp p' hp' hlt=>by
  have h1:=hP.each p hp
  have h2:=hP.each p' hp'
  obtain ⟨ao,o_,_,_,_,e⟩:=h1.blk
  have h3:=hF.rise h2.fl (p'.f - (p.f + 1)) (p.f + 1) (by have:=zjj (zda h2.fl); omega)
  rw [show p.f + 1 + (p'.f - (p.f + 1))=p'.f by omega,← h2.nm,e] at h3
  simp only at h3
  omega
 intro p hp p' hp' e
 rcases Nat.lt_trichotomy p.f p'.f with h | h | h
 ·have:=lt p hp p' hp' h; omega
 ·exact hP.one p hp p' hp' h
 ·have:=lt p' hp' p hp h; omega
theorem St.absorb (hkg:KG≤w0.heap.size) {listed:Array Bool} {a:Act} {w:World} (hF:Facts tb nt g ops call e0 V S):∀ (m q:Nat) (ρ:Mp) (l:List PE),ops.size - q≤m→St tb ops V S ρ0 h0 n0 w0 listed a w q ρ l→
  ∃ q ρ l,St tb ops V S ρ0 h0 n0 w0 listed a w q ρ l∧∀ c,q≤c→zbw tb ops c→listed.getD c false=true→∃ c',q≤c'∧c' < c∧zbw tb ops c'∧listed.getD c' false=false:=by
 intro m
 induction m with
 | zero=>
  intro q ρ l hm hS
  exact ⟨q,ρ,l,hS,fun c h1 h2 _=>by have:=zjj h2; omega⟩
 | succ m ih=>
  intro q ρ l hm hS
  by_cases hx:∃ c,q≤c∧zbw tb ops c∧listed.getD c false=true∧∀ c',q≤c'→c' < c→¬ zbw tb ops c'
  case neg=>
   refine ⟨q,ρ,l,hS,fun c h1 h2 h3=>?_⟩
   obtain ⟨c0,k1,k2,k3,k4⟩:=zsg (tb:=tb) (ops:=ops) q c h1 h2
   cases hl:listed.getD c0 false with
   | true=>exact absurd ⟨c0,k1,k3,hl,k4⟩ hx
   | false=>
    refine ⟨c0,k1,?_,k3,hl⟩
    rcases Nat.lt_or_ge c0 c with h | h
    ·exact h
    ·rw [show c0=c by omega,h3] at hl; cases hl
  obtain ⟨c,h1,h2,h3,h4⟩:=hx
  have hcs:=zjj h2
  have hSc:S c=S q:=by
   have:=hF.same (c - q) q (by omega) (fun c' g1 g2=>h4 c' g1 (by omega))
   rwa [show q + (c - q)=c by omega] at this
  have hnext:∀ p ∈ l,p.f≠c→c + 1≤p.f:=fun p hp hne=>by
   have h5:=hS.pd.each p hp
   rcases Nat.lt_or_ge p.f c with h | h
   ·exact absurd (zda h5.fl) (h4 p.f h5.at_ h)
   ·omega
  have hls:∀ c',c' < c + 1→zbw tb ops c'→listed.getD c' false=true:=fun c' g1 g2=>by
   rcases Nat.lt_or_ge c' q with h | h
   ·exact hS.ls c' h g2
   ·rcases Nat.lt_or_ge c' c with h' | h'
    ·exact absurd g2 (h4 c' h h')
    ·rw [show c'=c by omega]; exact h3
  have hap:=hS.pd.apart hF
  have hfr:=hS.pd.fresh hF hS.go.inv (fun p hp=>(hS.pd.each p hp).at_)
  by_cases hp:∃ p ∈ l,p.f=c
  ·obtain ⟨p,hp1,hp2⟩:=hp
   have h5:=hS.pd.each p hp1
   obtain ⟨ao,o_,b1,b2,b3,b4⟩:=h5.blk
   rw [hp2] at b4
   have hnm:p.nm=(S q).2:=by rw [h5.nm,hp2,hSc]
   have hX:ρ.X l (Sel ops p.f)=(ρ.ext p.nm (p.r,0) p.y):=by
    have hpk:∀ b,pick l (Sel ops p.f) b=if b=p.nm then some p else none:=fun b=>by
     cases hk:pick l (Sel ops p.f) b with
     | none=>
      split
      ·rename_i e
       have:=znk hk p hp1 e.symm
       unfold Sel at this
       rw [Nat.beq_refl,Bool.true_or] at this; cases this
      ·rfl
     | some p'=>
      obtain ⟨k1,k2,k3⟩:=zer hk
      have:p'=p:=by
       unfold Sel at k3
       rw [Bool.or_eq_true] at k3
       rcases k3 with k3 | k3
       ·exact hS.pd.one p' k1 p hp1 (Nat.eq_of_beq_eq_true k3)
       ·exfalso
        have h6:=hS.pd.each p' k1
        have h7:=zph hF k3
        rw [hp2] at h7
        exact h4 p'.f h6.at_ h7 (zda h6.fl)
      subst this
      rw [if_pos k2.symm]
    unfold Mp.X Mp.ext
    simp only [hpk]
    congr 1
    ·funext b
     by_cases e:b=p.nm
     ·simp only [if_pos e]
     ·simp only [if_neg e]
    ·funext b
     by_cases e:b=p.nm
     ·simp only [if_pos e]
     ·simp only [if_neg e]
   rw [hX] at b3
   have hSq:S (c + 1)=(setO (S q).1 (S q).2 ao,(S q).2 + 1):=by rw [b4,hSc,hnm]
   have htop:=h5.top
   rw [hnm] at htop b3
   have hG':=hS.go.adoptX (r:=p.r) (y:=p.y) hkg h5.rw0 b1 b2 htop b3
   rw [← hnm] at hG'
   have hle:=Mp.ext_le (x:=(p.r,0)) (y:=p.y) (hfr p hp1)
   let l':List PE:=l.filter fun p'=>!Nat.beq p'.f c
   have hl':∀ p',p' ∈ l' ↔ p' ∈ l∧p'.f≠c:=fun p'=>by
    show p' ∈ l.filter _ ↔ _
    rw [List.mem_filter]
    refine and_congr_right fun _=>?_
    rw [Bool.not_eq_true']
    cases e:Nat.beq p'.f c with
    | true=>simp [Nat.eq_of_beq_eq_true e]
    | false=>exact ⟨fun _ e'=>(by rw [e',Nat.beq_refl] at e; cases e),fun _=>rfl⟩
   have hfr':∀ p' ∈ l',(ρ.ext p.nm (p.r,0) p.y) p'.nm=none:=fun p' hp'=>by
    obtain ⟨k1,k2⟩:=(hl' p').1 hp'
    rw [Mp.ext_other (fun e=>k2 (by rw [hap p' k1 p hp1 e]; exact hp2))]
    exact hfr p' k1
   have hap':zmj l':=fun x hx y hy e=>hap x ((hl' x).1 hx).1 y ((hl' y).1 hy).1 e
   have hXle:∀ s,(ρ.X l s).le ((ρ.ext p.nm (p.r,0) p.y).X l' s):=fun s=>Mp.X_le hle hap' hfr' fun p' k1 k2=>by
    by_cases e:p'.f=c
    ·have:=hS.pd.one p' k1 p hp1 (e.trans hp2.symm)
     subst this
     exact .inr ⟨Mp.ext_same _ _ _ _,Mp.ext_sameG _ _ _ _⟩
    ·exact .inl ⟨(hl' p').2 ⟨k1,e⟩,k2⟩
   refine ih (c + 1) (ρ.ext p.nm (p.r,0) p.y) l' (by omega) ⟨by omega,hls,⟨fun p' hp'=>?_,fun x hx y hy=>hS.pd.one x ((hl' x).1 hx).1 y ((hl' y).1 hy).1,fun x hx y hy=>hS.pd.rs x ((hl' x).1 hx).1 y ((hl' y).1 hy).1,fun c' g1 g2 g3=>?_⟩,by rw [hSq]; rw [hnm] at hG' ⊢; exact hG',fun i o d ho hl hd=>zba (hXle _) _ _ (hS.vs i o d ho hl hd)⟩
   ·obtain ⟨k1,k2⟩:=(hl' p').1 hp'
    have h6:=hS.pd.each p' k1
    obtain ⟨ao',o',d1,d2,d3,d4⟩:=h6.blk
    refine ⟨hnext p' k1 k2,h6.nm,h6.top,h6.rw0,h6.fl,h6.done,h6.row,ao',o',d1,fun hlv=>?_,zb1 (hXle _) d3,d4⟩
    obtain ⟨b,ob,x,m1,m2,m3⟩:=hlv
    rw [hSq] at m2
    simp only at m2
    by_cases e:b=p.nm
    ·subst e
     rw [Mp.ext_same] at m3
     have e:p.r=p'.r:=(Prod.mk.inj (Option.some.inj m3)).1
     exact k2 (by rw [hS.pd.rs p' k1 p hp1 e.symm]; exact hp2)
    ·rw [Mp.ext_other e] at m3
     rw [za8 htop,if_neg (by rw [← hnm]; exact e)] at m2
     exact d2 ⟨b,ob,x,m1,m2,m3⟩
   ·obtain ⟨k1,k2⟩:=hS.pd.all c' (by omega) g2 g3
    refine ⟨k1,k2.imp (fun ⟨p',e1,e2⟩=>⟨p',(hl' p').2 ⟨e1,by omega⟩,e2⟩) id⟩
  ·have hSn:S (c + 1)=S q:=by
    rcases (hS.pd.all c h1 h2 h3).2 with h | h
    ·exact absurd h hp
    ·rw [h,hSc]
   refine ih (c + 1) ρ l (by omega) ⟨by omega,hls,⟨fun p' hp'=>?_,hS.pd.one,hS.pd.rs,fun c' g1 g2 g3=>hS.pd.all c' (by omega) g2 g3⟩,by rw [hSn]; exact hS.go,hS.vs⟩
   have h6:=hS.pd.each p' hp'
   obtain ⟨ao',o',d1,d2,d3,d4⟩:=h6.blk
   exact ⟨hnext p' hp' (fun e=>hp ⟨p',hp',e⟩),h6.nm,h6.top,h6.rw0,h6.fl,h6.done,h6.row,ao',o',d1,by rw [hSn]; exact d2,d3,d4⟩
theorem Pends.move {listed listed':Array Bool} {w w':World} {ρ σ:Mp} {q q':Nat} {l:List PE} (hP:Pends tb ops S w0 ρ q listed w l) (hF:Facts tb nt g ops call e0 V S) (hle:ρ.le σ) (hq:∀ p ∈ l,q'≤p.f) (hfr:∀ p ∈ l,σ p.nm=none)
  (hheld:∀ r o_,w.heap[r]?=some o_→¬ live ρ (S q).1 r→w'.heap[r]?=some o_∧¬ live σ (S q').1 r) (hl:∀ c,listed.getD c false=true→listed'.getD c false=true)
  (hall:∀ c,q'≤c→zbw tb ops c→listed'.getD c false=true→c ∈ flts tb ops∧((∃ p ∈ l,p.f=c)∨S (c + 1)=S c)):
  Pends tb ops S w0 σ q' listed' w' l:=by
 refine ⟨fun p hp=>?_,hP.one,hP.rs,hall⟩
 have h1:=hP.each p hp
 obtain ⟨ao,o_,b1,b2,b3,b4⟩:=h1.blk
 obtain ⟨c1,c2⟩:=hheld _ _ b1 b2
 exact ⟨hq p hp,h1.nm,h1.top,h1.rw0,h1.fl,hl _ h1.done,fun x hx=>h1.row x (by rw [b1,← c1]; exact hx),ao,o_,c1,c2,zb1 (Mp.X_le hle (hP.apart hF) hfr fun p' k1 k2=>.inl ⟨k1,k2⟩) b3,b4⟩
theorem JJ.up (hkg:KG≤w0.heap.size) {listed:Array Bool} {a:Act} {w w':World} (hJ:JJ tb ops V S a0 ρ0 h0 n0 w0 listed a w) (hF:Facts tb nt g ops call e0 V S) (hsz:nt≤a0.tmps.size) {i:Nat} {o:Oper} (ho:ops[i]?=some o)
  (hbef:∀ j,zbg (befs ops.toList) i j=true→listed.getD j false=true) (hdst:zd8 nt o.dst=true) {σ:Mp} {rv:Value} {q:Nat} {l:List PE}
  (hle:q≤ops.size) (hls:∀ c,c < q→zbw tb ops c→c=i∨listed.getD c false=true) (hP:Pends tb ops S w0 σ q (listed.setIfInBounds i true) w' l) (hG:Goes ρ0 h0 n0 w0 σ (S q).1 (S q).2 w')
  (hv:∀ i o d,ops[i]?=some o→listed.getD i false=true→o.dst=some d→rel (σ.X l (Sel ops i)) (V i) (a.tmps.getD d undef)) (hr:rel (σ.X l (Sel ops i)) (V i) rv):
  JJ tb ops V S a0 ρ0 h0 n0 w0 (listed.setIfInBounds i true) (a.put o.dst rv) w':=by
 have hil:i < ops.size:=(Array.getElem?_eq_some_iff.1 ho).1
 have hil':i < listed.size:=by rw [hJ.size]; exact hil
 have hput:∀ d,o.dst=some d→d < a.tmps.size:=fun d hd=>by
  rw [hd] at hdst; simp only [zd8,Nat.blt_eq] at hdst; rw [hJ.tsz]; exact Nat.lt_of_lt_of_le hdst hsz
 have e1:∀ c,(listed.setIfInBounds i true).getD c false=if c=i then true else listed.getD c false:=fun c=>zg7 hil'
 have hS:St tb ops V S ρ0 h0 n0 w0 (listed.setIfInBounds i true) (a.put o.dst rv) w' q σ l:=by
  refine ⟨hle,fun c hc he=>?_,hP,hG,fun j p d hp hj hd=>?_⟩
  ·rw [e1]
   split
   ·rfl
   ·rename_i hne; exact (hls c hc he).resolve_left hne
  ·rw [e1] at hj
   rw [zl7 hput]
   split at hj
   ·rename_i hji
    subst hji
    rw [ho] at hp; cases hp
    rw [if_pos hd]; exact hr
   ·rename_i hji
    rw [if_neg (fun h=>hji (hF.once hp ho hd h))]
    exact hv j p d hp hj hd
 obtain ⟨q1,ρ1,l1,s1,s2⟩:=hS.absorb hkg hF ops.size q σ l (by omega)
 refine ⟨by simp [hJ.size],fun j hj k hk=>?_,by rw [zqj]; exact hJ.tsz,by rw [zf3]; exact hJ.df,fun t ht=>?_,q1,ρ1,l1,s1.le,s1.ls,s1.pd,s2,s1.go,s1.vs⟩
 ·rw [e1] at hj ⊢
  split
  ·rfl
  ·split at hj
   ·rename_i hji; rw [hji] at hk; exact hbef k hk
   ·exact hJ.cl j hj k hk
 ·have hti:o.dst≠some t:=ht i o ho (by rw [e1,if_pos rfl])
  rw [zl7 hput,if_neg hti]
  refine hJ.rest t fun j p hp hj=>ht j p hp ?_
  rw [e1]
  split
  ·rfl
  ·exact hj
theorem JJ.step (hkg:KG≤w0.heap.size) {listed:Array Bool} {a:Act} {w:World} {Q:Exit→Act→World→Prop} (hJ:JJ tb ops V S a0 ρ0 h0 n0 w0 listed a w) (hF:Facts tb nt g ops call e0 V S) (hc:zem P call) (hops:∀ o,o ∈ ops.toList→zkc P tb o)
  (hE:FitE nt g ρ0 e0 a0) {i:Nat} (hi:i ∈ Region.ready .any ops listed):wpOpIn (FR r) m P ops Q i (JJ tb ops V S a0 ρ0 h0 n0 w0 (listed.setIfInBounds i true)) a w:=by
 obtain ⟨hun0,o,ho,hall⟩:=mem_ready.1 hi
 have hun:=getD_both hun0
 have hil:i < ops.size:=(Array.getElem?_eq_some_iff.1 ho).1
 have hil':i < listed.size:=by rw [hJ.size]; exact hil
 have hbef:=hJ.before hi
 obtain ⟨q,ρ,l,hq,hl,hP,hN,hG,hv⟩:=hJ.st
 obtain ⟨gd,hg,hdst,hwT,hwF⟩:=hF.gd i o ho
 have hmem:o ∈ ops.toList:=by
  have:=ho
  rw [← Array.getElem?_toList] at this
  exact List.mem_of_getElem? this
 have hap:=hP.apart hF
 have hfr:=hP.fresh hF hG.inv (fun p hp=>(hP.each p hp).at_)
 have hX:=Mp.le_X (s:=Sel ops i) hap hfr
 have e1:∀ c,(listed.setIfInBounds i true).getD c false=if c=i then true else listed.getD c false:=fun c=>zg7 hil'
 have hgrow:∀ c,listed.getD c false=true→(listed.setIfInBounds i true).getD c false=true:=fun c h=>by
  rw [e1]; split
  ·rfl
  ·exact h
 have hne:∀ p ∈ l,p.f≠i:=fun p hp e=>by
  have:=(hP.each p hp).done
  rw [e,hun] at this; cases this
 have off:i ∉ flts tb ops→ρ.X l (Sel ops i)=ρ:=fun hnf=>Mp.X_off fun p hp=>by
  cases hs:Sel ops i p.f with
  | false=>rfl
  | true=>
   exfalso
   unfold Sel at hs
   rw [Bool.or_eq_true] at hs
   have h5:=hP.each p hp
   rcases hs with hs | hs
   ·exact hne p hp (Nat.eq_of_beq_eq_true hs)
   ·obtain ⟨c',k1,k2,k3,k4⟩:=hN p.f h5.at_ (zda h5.fl) h5.done
    have:=hbef c' (hF.waits hil hnf h5.fl hs k3 k2)
    rw [k4] at this; cases this
 have offT:(∀ c,q≤c→c < i→¬ zbw tb ops c)→ρ.X l (Sel ops i)=ρ:=fun hno=>Mp.X_off fun p hp=>by
  cases hs:Sel ops i p.f with
  | false=>rfl
  | true=>
   exfalso
   unfold Sel at hs
   rw [Bool.or_eq_true] at hs
   have h5:=hP.each p hp
   rcases hs with hs | hs
   ·exact hne p hp (Nat.eq_of_beq_eq_true hs)
   ·exact hno p.f h5.at_ (zph hF hs) (zda h5.fl)
 have told:∀ j oj d,zbg (befs ops.toList) i j=true→ops[j]?=some oj→oj.dst=some d→rel (ρ.X l (Sel ops i)) (V j) (a.tmps.getD d undef):=fun j oj d hah hoj hd=>
  zba (Mp.X_le (Mp.le_refl ρ) hap hfr fun p k1 k2=>.inl ⟨k1,zr0 hF hah k2⟩) _ _ (hv j oj d hoj (hbef j hah) hd)
 have own:∀ p d,zc0 d (dsAt ops.toList i) 0=some p→p < i∧∃ oj,ops[i - 1 - p]?=some oj∧oj.dst=some d:=by
  intro p d hp
  have h1:=zjx hp
  have hlt:p < i:=by
   rcases Nat.lt_or_ge p i with h | h
   ·exact h
   ·rw [List.getElem?_eq_none (by rw [zpt (by simpa using Nat.le_of_lt hil)]; exact h)] at h1; cases h1
  have h2:=zlq (ops:=ops.toList) (i:=i) (j:=i - 1 - p) (by simpa using Nat.le_of_lt hil) (by omega)
  rw [show i - 1 - (i - 1 - p)=p by omega,h1,Array.getElem?_toList] at h2
  cases hj:ops[i - 1 - p]? with
  | none=>rw [hj] at h2; cases h2
  | some oj=>rw [hj] at h2; exact ⟨hlt,oj,rfl,(Option.some.inj h2).symm⟩
 have hw:Region.wanted o (yielded ops a.tmps)=za4 (LSof V i) gd:=by
  refine zqv (zyg (Nat.le_of_lt hil)) (ρ:=ρ.X l (Sel ops i)) (fun j b d hog hj hp=>?_) hg
  obtain ⟨_,oj,h1,h2⟩:=own _ _ hp
  rw [show i - 1 - (i - 1 - j)=j by omega] at h1
  rw [zlf V i _ (by omega),show i - 1 - (i - 1 - j)=j by omega]
  exact told j oj d (hF.guard ho hog) h1 h2
 have hfit:∀ x,x ∈ o.op.operands→Fits (ρ.X l (Sel ops i)) (dsAt ops.toList i) (LSof V i) e0 a x:=by
  intro x hx s hs
  cases x with
  | tmp t=>
   simp only [lowS] at hs; cases hs
   unfold lowT
   cases hp:zc0 t (dsAt ops.toList i) 0 with
   | some p=>
    obtain ⟨hlt,oj,h1,h2⟩:=own _ _ hp
    show rel _ (nthD p (LSof V i)) (a.tmps.getD t undef)
    rw [zlf V i p hlt]
    exact told _ oj t ((hF.read ho hx h1 h2).1 (by omega)) h1 h2
   | none=>
    have hk:memN t g=true:=hF.kept i o ho (.tmp t) hx hp
    show rel _ (eAt (t + 1) e0) (a.tmps.getD t undef)
    rw [hJ.rest t ?_]
    ·exact zba (Mp.le_trans hG.le hX) _ _ (hE.slot t hk)
    ·intro j p hpj hlj hd
     have hrd:=hF.read ho hx hpj hd
     rcases Nat.lt_trichotomy j i with h | h | h
     ·have hn:=zh3 hp
      refine hn ?_
      have h2:=zlq (ops:=ops.toList) (i:=i) (j:=j) (by simpa using Nat.le_of_lt hil) h
      rw [show ops.toList[j]?=ops[j]? from Array.getElem?_toList,hpj,Option.map_some,hd] at h2
      exact List.mem_of_getElem? h2
     ·subst h; rw [hun] at hlj; cases hlj
     ·have:=hJ.cl j hlj i (hrd.2 h)
      rw [hun] at this; cases this
  | const v=>
   simp only [lowS] at hs
   cases hv:lowV v with
   | none=>rw [hv] at hs; cases hs
   | some b=>rw [hv] at hs; cases hs; exact zez _ v b hv
  | global j=>exact zjo (fun i hk=>hX.at_ _ _ (hG.inv.st i hk)) hs
  | func f=>
   cases hs
   show rel _ (.func f .nl) (.func (.func f) #[] #[])
   simp only [rel]
   exact ⟨#[],rfl,by simp only [relL]⟩
 have hqi:zbm tb o.op=0→q≤i:=by
  intro hcl
  rcases Nat.lt_or_ge i q with h | h
  ·have:=hl i h ⟨o,ho,hcl⟩; rw [hun] at this; cases this
  ·exact h
 have hpast:zbm tb o.op=0→(∀ c,q≤c→c < i→¬ zbw tb ops c)∨i ∈ flts tb ops:=by
  intro hcl
  have hie:zbw tb ops i:=⟨o,ho,hcl⟩
  by_cases hif:i ∈ flts tb ops
  ·exact .inr hif
  ·refine .inl fun c k1 k2 k3=>?_
   have hcl1:∀ c,zbw tb ops c→c < i→listed.getD c false=true:=fun c g1 g2=>hbef c ((hF.chain g1 hie g2).resolve_right hif)
   obtain ⟨c',g1,g2,g3,g4⟩:=hN c k1 k3 (hcl1 c k3 k2)
   have:=hcl1 c' g3 (by omega)
   rw [g4] at this; cases this
 have heff:(∀ c,q≤c→c < i→¬ zbw tb ops c)→q≤i→S i=S q:=by
  intro hno hqi
  have:=hF.same (i - q) q (by omega) (fun c h1 h2=>hno c h1 (by omega))
  rwa [show q + (i - q)=i by omega] at this
 have hcl':∀ c,zbw tb ops c→zbg (befs ops.toList) i c=true→q≤c→i ∉ flts tb ops→False:=fun c g1 g2 g3 hnf=>by
  obtain ⟨c',k1,k2,k3,k4⟩:=hN c g3 g1 (hbef c g2)
  obtain ⟨h5,_⟩:=hP.all c g3 g1 (hbef c g2)
  have:=hbef c' (hF.waits hil hnf h5 g2 k3 k2)
  rw [k4] at this; cases this
 have fltNe:zbm tb o.op≠0→i ∉ flts tb ops:=fun hcl e=>by
  obtain ⟨o',h1,h2⟩:=zda e
  rw [ho] at h1; cases h1
  exact hcl h2
 have hwin:zbm tb o.op≠0→Win tb ops q i:=by
  intro hcl
  refine ⟨hq,fun c hcq hce=>?_,fun c hcq hce=>?_⟩
  ·cases hb:zbg (befs ops.toList) c i with
   | false=>rfl
   | true=>
    have:=hJ.cl c (hl c hcq hce) i hb
    rw [hun] at this; cases this
  ·cases hb:zbg (befs ops.toList) i c with
   | false=>rfl
   | true=>exact (hcl' c hce hb hcq (fltNe hcl)).elim
 have next0:zbm tb o.op=0→(∀ c,q≤c→c < i→¬ zbw tb ops c)→∀ (a':Act) (w':World) (σ:Mp) (rv:Value),rel σ (V i) rv→a'=a.put o.dst rv→Goes ρ (S q).1 (S q).2 w σ (S (i + 1)).1 (S (i + 1)).2 w'→
   JJ tb ops V S a0 ρ0 h0 n0 w0 (listed.setIfInBounds i true) a' w':=by
  intro hcl hno a' w' σ rv hr ha hG'
  subst ha
  have hp1:∀ p ∈ l,i + 1≤p.f:=fun p hp=>by
   have h5:=hP.each p hp
   have:=hne p hp
   rcases Nat.lt_or_ge p.f i with h | h
   ·exact absurd (zda h5.fl) (hno p.f h5.at_ h)
   ·omega
  have hfr':=hP.fresh hF hG'.inv hp1
  refine hJ.up hkg hF hE.size ho hbef hdst (q:=i + 1) (by omega) (fun c hci hce=>?_) (hP.move hF hG'.le hp1 hfr' (fun r o_ q1 q2=>hG'.held q1 q2) hgrow fun c g1 g2 g3=>?_) (hG.trans hG') (fun j oj d hoj hlj hd=>zba (Mp.X_le hG'.le hap hfr' fun p k1 k2=>.inl ⟨k1,k2⟩) _ _ (hv j oj d hoj hlj hd)) (zba (Mp.le_X hap hfr') _ _ hr)
  ·by_cases e:c=i
   ·exact .inl e
   ·right
    rcases Nat.lt_or_ge c q with h | h
    ·exact hl c h hce
    ·exact absurd hce (hno c h (by omega))
  ·rw [e1,if_neg (by omega)] at g3
   have:=hqi hcl
   exact hP.all c (by omega) g2 g3
 have next1:zbm tb o.op≠0→∀ (a':Act) (w':World) (σ:Mp) (rv:Value),rel σ (V i) rv→a'=a.put o.dst rv→Goes ρ (S q).1 (S q).2 w σ (S q).1 (S q).2 w'→
   JJ tb ops V S a0 ρ0 h0 n0 w0 (listed.setIfInBounds i true) a' w':=by
  intro hcl a' w' σ rv hr ha hG'
  subst ha
  have hp1:∀ p ∈ l,q≤p.f:=fun p hp=>(hP.each p hp).at_
  have hfr':=hP.fresh hF hG'.inv hp1
  refine hJ.up hkg hF hE.size ho hbef hdst (q:=q) hq (fun c hci hce=>.inr (hl c hci hce)) (hP.move hF hG'.le hp1 hfr' (fun r o_ q1 q2=>hG'.held q1 q2) hgrow fun c g1 g2 g3=>?_) (hG.trans hG') (fun j oj d hoj hlj hd=>zba (Mp.X_le hG'.le hap hfr' fun p k1 k2=>.inl ⟨k1,k2⟩) _ _ (hv j oj d hoj hlj hd)) (zba (Mp.le_X hap hfr') _ _ hr)
  have hci:c≠i:=fun e=>by
   subst e
   obtain ⟨o',h1,h2⟩:=g2
   rw [ho] at h1; cases h1
   exact hcl h2
  rw [e1,if_neg hci] at g3
  exact hP.all c g1 g2 g3
 unfold wpOpIn
 rw [ho]
 simp only
 rw [hw]
 cases hwa:za4 (LSof V i) gd with
 | false=>
  rw [if_neg (by simp)]
  obtain ⟨hV,hS⟩:=hwF hwa
  refine ⟨fun _ _=>trivial,?_⟩
  by_cases hcl:zbm tb o.op=0
  ·by_cases hif:i ∈ flts tb ops
   ·
    have:=(hF.kind hif ho).2
    rw [this] at hg
    cases hg
    cases hwa
   ·have hno:=(hpast hcl).resolve_right hif
    refine next0 hcl hno _ _ ρ undef (by rw [hV]; exact zd4 ρ) rfl ?_
    rw [hS,heff hno (hqi hcl)]; exact Goes.refl hG.inv
  ·exact next1 hcl _ _ ρ undef (by rw [hV]; exact zd4 ρ) rfl (Goes.refl hG.inv)
 | true=>
  rw [if_pos rfl]
  obtain ⟨hE0,hE1⟩:=hwT hwa
  by_cases hcl:zbm tb o.op=0
  ·have hrun:=hE0 hcl
   by_cases hno:∀ c,q≤c→c < i→¬ zbw tb ops c
   ·rw [heff hno (hqi hcl)] at hrun
    have hfit':=hfit
    rw [offT hno] at hfit'
    refine Oper.wpIn_mono (fun a' w' ha=>?_) (Oper.wpIn_of (zc4 hrun (by simp)) ((hops o hmem).1 (dsAt ops.toList i) (LSof V i) e0 a ρ (S q).1 (S q).2 w call finK _ Q hc hfit' hG.inv hrun (by simp)))
    obtain ⟨rv,ha',v,h',n',σ,hk,hG',hrel⟩:=ha
    injection hk with e1 e2 e3
    subst e1; subst e2; subst e3
    exact next0 hcl hno a' w' σ rv hrel ha' hG'
   ·
    have hif:=(hpast hcl).resolve_left hno
    have hkind:=(hF.kind hif ho).1
    rcases (hops o hmem).2 hkind (dsAt ops.toList i) (LSof V i) e0 a (ρ.X l (Sel ops i)) (S i).2 w call (S i).1 (V i) _ _ hfit (fun i hk=>hX.at_ _ _ (hG.inv.st i hk)) hrun with ⟨ao,o_,y,rv,f1,f2,f3,f4,f5,f6,frow⟩ | ⟨rv,f2,f3,f4,f6⟩ | ⟨s_,d_,x_,b,off,len,cap,ex,r_,z,rv,fo,fu,fv,f2,f3,f4,f5,f6⟩
    ·refine Oper.wpIn_of (zc4 hrun (by simp)) ?_
     unfold Oper.wp
     rw [f6]
     show JJ tb ops V S a0 ρ0 h0 n0 w0 (listed.setIfInBounds i true) (a.put o.dst rv) (w.alloc o_)
     obtain ⟨g1,g2,g3⟩:=Goes.alloc hG.inv o_
     let pe:PE:=⟨i,(S i).2,w.heap.size,y⟩
     have hpS:S (i + 1)=(setO (S i).1 (S i).2 ao,(S i).2 + 1):=by rw [← f2,← f3]
     have hrl:∀ p ∈ l,p.r < w.heap.size:=fun p hp=>by
      obtain ⟨_,_,b1,_⟩:=(hP.each p hp).blk
      exact zh9 b1
     have hfrP:ρ pe.nm=none:=by
      cases hx:ρ pe.nm with
      | none=>rfl
      | some x=>
       exfalso
       have h1:=hG.inv.dom pe.nm (by rw [hx]; simp)
       have h3:=hF.rise hif (i - q) q (by omega)
       rw [show q + (i - q)=i by have:=hqi hcl; omega] at h3
       have:pe.nm=(S i).2:=rfl
       omega
     have hfr1:∀ p ∈ pe :: l,ρ p.nm=none:=fun p hp=>by
      rcases List.mem_cons.1 hp with rfl | hp
      ·exact hfrP
      ·exact hfr p hp
     have hap1:zmj (pe :: l):=by
      have lt:∀ p ∈ l,p.nm≠pe.nm:=fun p hp e=>by
       have h5:=hP.each p hp
       obtain ⟨_,_,_,_,_,b4⟩:=h5.blk
       have hpf:=hne p hp
       have hil2:=zjj (zda h5.fl)
       have e':pe.nm=(S i).2:=rfl
       rcases Nat.lt_or_ge p.f i with h | h
       ·have h3:=hF.rise hif (i - (p.f + 1)) (p.f + 1) (by omega)
        rw [show p.f + 1 + (i - (p.f + 1))=i by omega,b4] at h3
        simp only at h3
        omega
       ·have h3:=hF.rise hif (p.f - (i + 1)) (i + 1) (by omega)
        rw [show i + 1 + (p.f - (i + 1))=p.f by omega,hpS,← h5.nm] at h3
        simp only at h3
        omega
      intro p hp p' hp' e
      rcases List.mem_cons.1 hp with rfl | hp<;>rcases List.mem_cons.1 hp' with rfl | hp'
      ·rfl
      ·exact absurd e.symm (lt p' hp')
      ·exact absurd e (lt p hp)
      ·exact hap p hp p' hp' e
     have hXle:∀ s,(ρ.X l s).le (ρ.X (pe :: l) s):=fun s=>Mp.X_le (Mp.le_refl ρ) hap1 hfr1 fun p k1 k2=>.inl ⟨List.mem_cons_of_mem _ k1,k2⟩
     have hpk:pick (pe :: l) (Sel ops i) (S i).2=some pe:=by
      unfold pick
      rw [List.find?_cons_of_pos]
      show (Nat.beq (S i).2 (S i).2 && Sel ops i i)=true
      unfold Sel
      rw [Nat.beq_refl,Nat.beq_refl]; rfl
     refine hJ.up hkg hF hE.size ho hbef hdst (q:=q) (l:=pe :: l) hq (fun c hci hce=>.inr (hl c hci hce)) ⟨fun p hp=>?_,fun p hp p' hp' e=>?_,fun p hp p' hp' e=>?_,fun c k1 k2 k3=>?_⟩ (hG.trans g1) (fun j oj d hoj hlj hd=>zba (hXle _) _ _ (hv j oj d hoj hlj hd)) (f5 _ ?_ ?_)
     ·rcases List.mem_cons.1 hp with rfl | hp
      ·exact ⟨hqi hcl,rfl,f1,hG.size,hif,by rw [e1,if_pos rfl],fun x hx=>by (have hx':(w.alloc o_).heap[w.heap.size]?=some x:=hx; rw [g2] at hx'; cases hx'; exact frow),ao,o_,g2,g3,zb1 (hXle _) f4,hpS⟩
      ·have h5:=hP.each p hp
       obtain ⟨ao',o',b1,b2,b3,b4⟩:=h5.blk
       obtain ⟨c1,c2⟩:=g1.held b1 b2
       exact ⟨h5.at_,h5.nm,h5.top,h5.rw0,h5.fl,hgrow _ h5.done,fun x hx=>h5.row x (by rw [b1,← c1]; exact hx),ao',o',c1,c2,zb1 (hXle _) b3,b4⟩
     ·rcases List.mem_cons.1 hp with rfl | hp<;>rcases List.mem_cons.1 hp' with rfl | hp'
      ·rfl
      ·exact absurd e.symm (hne p' hp')
      ·exact absurd e (hne p hp)
      ·exact hP.one p hp p' hp' e
     ·rcases List.mem_cons.1 hp with rfl | hp<;>rcases List.mem_cons.1 hp' with rfl | hp'
      ·rfl
      ·have:=hrl p' hp'
       have e':w.heap.size=p'.r:=e
       omega
      ·have:=hrl p hp
       have e':p.r=w.heap.size:=e
       omega
      ·exact hP.rs p hp p' hp' e
     ·by_cases e:c=i
      ·subst e
       exact ⟨hif,.inl ⟨pe,List.mem_cons_self,rfl⟩⟩
      ·rw [e1,if_neg e] at k3
       obtain ⟨m1,m2⟩:=hP.all c k1 k2 k3
       exact ⟨m1,m2.imp (fun ⟨p,x1,x2⟩=>⟨p,List.mem_cons_of_mem _ x1,x2⟩) id⟩
     ·show (match pick (pe :: l) (Sel ops i) (S i).2 with | some p=>some (p.r,0) | none=>ρ (S i).2)=_
      rw [hpk]
     ·show (match pick (pe :: l) (Sel ops i) (S i).2 with | some p=>p.y | none=>ρ.g (S i).2)=_
      rw [hpk]
    ·refine Oper.wpIn_of (zc4 hrun (by simp)) ?_
     unfold Oper.wp
     rw [f6]
     show JJ tb ops V S a0 ρ0 h0 n0 w0 (listed.setIfInBounds i true) (a.put o.dst rv) w
     refine hJ.up hkg hF hE.size ho hbef hdst (q:=q) (l:=l) hq (fun c hci hce=>.inr (hl c hci hce)) (hP.move hF (Mp.le_refl ρ) (fun p hp=>(hP.each p hp).at_) hfr (fun r o_ q1 q2=>⟨q1,q2⟩) hgrow fun c k1 k2 k3=>?_) hG hv f4
     by_cases e:c=i
     ·subst e
      exact ⟨hif,.inr (Prod.ext f2 f3)⟩
     ·rw [e1,if_neg e] at k3
      exact hP.all c k1 k2 k3
    ·
     obtain ⟨t,f0,o0,t',a',os,hx,hlt,he0,ho0,hd0,hop0,hsep⟩:=hF.mark hif ho fo
     subst hx
     have hq0:q≤f0:=by
      by_cases hh:∃ c,q≤c∧c < i∧zbw tb ops c
      ·obtain ⟨c,c1,c2,c3⟩:=hh
       rcases hsep c c3 with h | h<;>omega
      ·exact absurd (fun c a b e=>hh ⟨c,a,b,e⟩) hno
     have hah:zbg (befs ops.toList) i f0=true:=(hF.read ho (by rw [fo]; simp [Op.operands]) ho0 hd0).1 hlt
     have hli:=hbef f0 hah
     have hVV:V i=V f0:=by
      obtain ⟨u,u1,u2⟩:=fu
      simp only [lowS] at u1; cases u1
      unfold lowT at u2
      cases hp:zc0 t (dsAt ops.toList i) 0 with
      | some p=>
       rw [hp] at u2
       obtain ⟨hlt',oj,h1,h2⟩:=own _ _ hp
       have u3:nthD p (LSof V i)=V i:=u2
       rw [← u3,zlf V i p hlt',hF.once h1 ho0 h2 hd0]
      | none=>
       exfalso
       refine zh3 hp ?_
       have h2:=zlq (ops:=ops.toList) (i:=i) (j:=f0) (by simpa using Nat.le_of_lt hil) hlt
       rw [show ops.toList[f0]?=ops[f0]? from Array.getElem?_toList,ho0,Option.map_some,hd0] at h2
       exact List.mem_of_getElem? h2
     have hnum:V f0=.sl (S f0).2 0 a' a' true∧(S (f0 + 1)).2=(S f0).2 + 1:=by
      obtain ⟨gd0,_,_,hT0,hF0⟩:=hF.gd f0 o0 ho0
      cases hw0:za4 (LSof V f0) gd0 with
      | false=>have h1:=(hF0 hw0).1; rw [← hVV,fv] at h1; cases h1
      | true=>
       have run0:=(hT0 hw0).1 (by rw [hop0]; rfl)
       rw [hop0] at run0
       exact z1a run0
     have hb:b=(S f0).2:=by
      have h1:=hnum.1
      rw [← hVV,fv] at h1
      injection h1
     obtain ⟨p,hp,hpf⟩:∃ p ∈ l,p.f=f0:=by
      rcases (hP.all f0 hq0 he0 hli).2 with h | h
      ·exact h
      ·have h1:=hnum.2; rw [h] at h1; omega
     have hP5:=hP.each p hp
     have hnm:p.nm=b:=by rw [hP5.nm,hpf,hb]
     have hr_:r_=p.r:=by
      have h1:(match pick l (Sel ops i) b with | some p=>some (p.r,0) | none=>ρ b)=some (r_,z):=f5
      cases hk:pick l (Sel ops i) b with
      | none=>
       have h2:=znk hk p hp hnm
       unfold Sel at h2
       rw [hpf,hah,Bool.or_true] at h2; cases h2
      | some p'=>
       rw [hk] at h1
       obtain ⟨k1,k2,_⟩:=zer hk
       rw [hap p' k1 p hp (k2.trans hnm.symm)] at h1
       exact (Prod.mk.inj (Option.some.inj h1)).1.symm
     subst hr_
     obtain ⟨ao,o_,b1,b2,b3,b4⟩:=hP5.blk
     obtain ⟨c0,et,fz,rfl⟩:=hP5.row _ b1
     have hrun':=f6 c0 et fz b1
     obtain ⟨m1,m2,m3⟩:=z1d b1
     refine Oper.wpIn_of (zc4 hrun (by simp)) ?_
     unfold Oper.wp
     rw [hrun']
     show JJ tb ops V S a0 ρ0 h0 n0 w0 (listed.setIfInBounds i true) (a.put o.dst rv) (w.freeze ⟨p.r,c0.size,none⟩ 1)
     refine hJ.up hkg hF hE.size ho hbef hdst (q:=q) (l:=l) hq (fun c hci hce=>.inr (hl c hci hce)) ⟨fun p' hp'=>?_,hP.one,hP.rs,fun c k1 k2 k3=>?_⟩ (hG.touch hkg hP5.rw0 b2 m2 m3 ⟨rfl,rfl⟩) hv f4
     ·have h5:=hP.each p' hp'
      obtain ⟨ao',o',d1,d2,d3,d4⟩:=h5.blk
      by_cases e:p'.r=p.r
      ·have:=hP.rs p' hp' p hp e
       subst this
       rw [b1] at d1; cases d1
       exact ⟨h5.at_,h5.nm,h5.top,h5.rw0,h5.fl,hgrow _ h5.done,fun x hx=>by (rw [m1] at hx; cases hx; exact ⟨_,_,_,rfl⟩),ao',_,m1,d2,z1g d3 frz_ok,d4⟩
      ·have c1:=m2 p'.r e
       exact ⟨h5.at_,h5.nm,h5.top,h5.rw0,h5.fl,hgrow _ h5.done,fun x hx=>h5.row x (by rw [← c1]; exact hx),ao',o',by rw [c1]; exact d1,d2,d3,d4⟩
     ·by_cases e:c=i
      ·subst e
       exact ⟨hif,.inr (Prod.ext f2 f3)⟩
      ·rw [e1,if_neg e] at k3
       exact hP.all c k1 k2 k3
  ·have hrun:=(hE1 hcl).2 q (hwin hcl) finK
   have hfit':=hfit
   rw [off (fltNe hcl)] at hfit'
   refine Oper.wpIn_mono (fun a' w' ha=>?_) (Oper.wpIn_of (zc4 hrun (by simp [finK])) ((hops o hmem).1 (dsAt ops.toList i) (LSof V i) e0 a ρ (S q).1 (S q).2 w call finK _ Q hc hfit' hG.inv hrun (by simp [finK])))
   obtain ⟨rv,ha',v,h',n',σ,hk,hG',hrel⟩:=ha
   injection hk with e1 e2 e3
   subst e1; subst e2; subst e3
   exact next1 hcl a' w' σ rv hrel ha' hG'
theorem JJ.all (hkg:KG≤w0.heap.size) {Q:Exit→Act→World→Prop} (hF:Facts tb nt g ops call e0 V S) (hc:zem P call) (hops:∀ o,o ∈ ops.toList→zkc P tb o) (hE:FitE nt g ρ0 e0 a0)
  (hQ:∀ (listed:Array Bool) (a:Act) (w:World),JJ tb ops V S a0 ρ0 h0 n0 w0 listed a w→(∀ j,j < ops.size→listed.getD j false=true)→Q .normal a w):
  ∀ (fuel:Nat) (listed:Array Bool) (a:Act) (w:World),JJ tb ops V S a0 ρ0 h0 n0 w0 listed a w→cntU listed ops.size=fuel→wpAnyIn (FR r) m P .any ops Q fuel listed a w:=by
 have done:∀ (listed:Array Bool) (a:Act) (w:World),JJ tb ops V S a0 ρ0 h0 n0 w0 listed a w→Region.ready .any ops listed=[]→∀ j,j < ops.size→listed.getD j false=true:=by
  intro listed a w hJ hr j
  induction j using Nat.strongRecOn with
  | _ j ih=>
   intro hj
   cases hl:listed.getD j false with
   | true=>rfl
   | false=>
    have:j ∈ Region.ready .any ops listed:=by
     refine mem_ready.2 ⟨getD_in (by rw [hJ.size]; exact hj) hl,ops[j],by simp [hj],fun e he hb=>?_⟩
     have hlt:=hF.edge (i:=j) (o:=ops[j]) (by simp [hj]) he hb
     exact ih e.on hlt (by omega)
    rw [hr] at this; cases this
 intro fuel
 induction fuel with
 | zero=>
  intro listed a w hJ hz
  have hall:=zmp ops.size hz
  refine ⟨?_,hQ listed a w hJ hall⟩
  cases hr:Region.ready .any ops listed with
  | nil=>rfl
  | cons i l=>
   have hi:i ∈ Region.ready .any ops listed:=by rw [hr]; exact List.mem_cons_self
   obtain ⟨h1,o,ho,_⟩:=mem_ready.1 hi
   have h2:=hall i (Array.getElem?_eq_some_iff.1 ho).1
   rw [getD_both h1] at h2; cases h2
 | succ fuel ih=>
  intro listed a w hJ hz
  refine ⟨fun hr=>hQ listed a w hJ (done listed a w hJ hr),fun i hi=>?_⟩
  obtain ⟨h1,o,ho,_⟩:=mem_ready.1 hi
  have hil:i < ops.size:=(Array.getElem?_eq_some_iff.1 ho).1
  refine wpOpIn_mono (fun a' w' hJ'=>ih _ a' w' hJ' ?_) (hJ.step hkg hF hc hops hE hi)
  have:=zpq (by rw [hJ.size]; exact hil) (getD_both h1) ops.size hil
  omega
end
end
end Go.VE
namespace Go.VE
noncomputable section
open Go
theorem zwq {nt:Nat} (hnt:nt≤255) {g:List Nat} {e:Env} {dst:Option Nat} {v:AV} {t:Nat} (hd:zd8 nt dst=true) (ht:memN t g=true):
  eAt (t + 1) (putE e (zcc g dst) v)=if dst=some t then v else eAt (t + 1) e:=by
 cases dst with
 | none=>rw [if_neg (by simp)]; rfl
 | some d=>
  simp only [zd8,Nat.blt_eq] at hd
  simp only [zcc]
  by_cases e1:d=t
  ·subst e1
   rw [ht,if_pos rfl,cond_true]
   unfold putE
   have:Nat.beq (d + 1) 0=false:=rfl
   rw [this,zbe,zji (by omega),if_pos rfl]
  ·rw [if_neg (fun h=>e1 (Option.some.inj h))]
   cases memN d g
   ·rfl
   ·rw [cond_true]; unfold putE
    have:Nat.beq (d + 1) 0=false:=rfl
    rw [this,zbe,zji (by omega),if_neg (by omega)]
theorem zl1 {nt:Nat} {g:List Nat} {tb:Tb} {bs:List Nat} {m:Nat} {es:List Nat}:∀ (l:List Oper) (ds:List (Option Nat)) (cur:Nat),
  (lowD nt g tb bs m es ds cur l).length=l.length∧∀ (j:Nat) (o:Oper),l[j]?=some o→(lowD nt g tb bs m es ds cur l)[j]?=
   some (DOper.mk (lowOper nt g tb (((l.take j).map (fun p:Oper=>p.dst)).reverse ++ ds) (cur + j) o) (zbm tb o.op) (bif Nat.beq (zbm tb o.op) 1 then (zka bs m (cur + j) es).map (fun q=>m - q) else []))
 | [],_,_=>⟨rfl,fun j o h=>by simp at h⟩
 | o :: l,ds,cur=>by
  obtain ⟨h1,h2⟩:=zl1 (nt:=nt) (g:=g) (tb:=tb) (bs:=bs) (m:=m) (es:=es) l (o.dst :: ds) (cur + 1)
  refine ⟨by simp only [lowD,List.length_cons,h1],fun j p hp=>?_⟩
  cases j with
  | zero=>cases hp; simp [lowD]
  | succ j=>
   simp only [lowD,List.getElem?_cons_succ]
   rw [h2 j p hp,show cur + 1 + j=cur + (j + 1) by omega]
   simp
theorem zep {nt:Nat} {g:List Nat} {tb:Tb} {ops:Array Oper} {i:Nat} {o:Oper} (ho:ops[i]?=some o):(zd6 nt g tb ops.toList)[i]?=
  some (DOper.mk (lowOper nt g tb (dsAt ops.toList i) i o) (zbm tb o.op)
   (bif Nat.beq (zbm tb o.op) 1 then (zka (befs ops.toList) ops.size i (effs (ops.toList.map fun o=>zbm tb o.op) 0)).map (fun q=>ops.size - q) else [])):=by
 have:=(zl1 (nt:=nt) (g:=g) (tb:=tb) (bs:=befs ops.toList) (m:=ops.toList.length) (es:=effs (ops.toList.map fun o=>zbm tb o.op) 0) ops.toList [] 0).2 i o (by rw [Array.getElem?_toList]; exact ho)
 rw [Nat.zero_add,List.append_nil,Array.length_toList] at this
 unfold zd6
 rw [Array.length_toList]
 exact this
theorem zg9 {nt:Nat} {g:List Nat} {tb:Tb} {ops:Array Oper}:(zd6 nt g tb ops.toList).length=ops.size:=by
 unfold zd6
 exact ((zl1 _ _ _).1).trans Array.length_toList
theorem zha (nt:Nat) (g:List Nat) (tb:Tb) (ds:List (Option Nat)) (cur:Nat) (o:Oper):lowOper nt g tb ds cur o=zhw∨
  ∃ gd,zc3 ds cur o.guard=some gd∧zd8 nt o.dst=true∧lowOper nt g tb ds cur o={ dst:=zcc g o.dst,guard:=gd,op:=zbb ds tb o.op }:=by
 unfold lowOper
 cases zc3 ds cur o.guard with
 | none=>exact .inl rfl
 | some gd=>
  cases hd:zd8 nt o.dst with
  | false=>exact .inl rfl
  | true=>exact .inr ⟨gd,rfl,rfl,rfl⟩
theorem zhb {nt:Nat} {g:List Nat} {tb:Tb} {ds:List (Option Nat)} {cur:Nat} {o:Oper} (h:zbm tb o.op≠0):StillOp (lowOper nt g tb ds cur o).op:=by
 rcases zha nt g tb ds cur o with e | ⟨gd,_,_,e⟩
 ·rw [e]; exact po_bad.still
 ·rw [e]
  show StillOp (zbb ds tb o.op)
  have:zbm tb o.op=1∨zbm tb o.op=2:=by
   generalize o.op=p at h
   cases p<;>simp only [zbm] at h ⊢<;>first | exact .inl rfl | exact .inr rfl | exact absurd rfl h | skip
   all_goals (repeat' split at h)<;>first | exact absurd rfl h | (simp_all)
  rcases this with h1 | h1
  ·exact zsa h1 ds
  ·exact (zpp h1 ds).still
theorem zhk {g:List Nat}:∀ {l:List Oper} {ds:List (Option Nat)} {acc:List Nat},Sub (zeb ds l acc) g→∀ j o,l[j]?=some o→∀ x,x ∈ o.op.operands→Kept g (((l.take j).map (·.dst)).reverse ++ ds) x
 | [],_,_,_,j,o,ho,_,_=>by simp at ho
 | p :: l,ds,acc,h,j,o,ho,x,hx=>by
  cases j with
  | zero=>
   cases ho
   exact ze4 ((zdk _ l _).trans h) x (by simpa using hx)
  | succ j=>
   have:=zhk (l:=l) h j o ho x hx
   simpa using this
end
end Go.VE
namespace Go.VE
noncomputable section
open Go
section
variable {P:Program} {tb:Tb} {nt:Nat} {g:List Nat} {ops:Array Oper} {call:zbc} {e0:Env} {V:Nat→AV} {S:Nat→H × Nat} {r:Option Nat} {m:Nat}
theorem zuo {i:Nat} {o:Oper} {q:List Nat} (hT:Tr call e0 V S i (DOper.mk (lowOper nt g tb (dsAt ops.toList i) i o) (zbm tb o.op) q)):
  ∃ gd,zc3 (dsAt ops.toList i) i o.guard=some gd∧zd8 nt o.dst=true∧lowOper nt g tb (dsAt ops.toList i) i o={ dst:=zcc g o.dst,guard:=gd,op:=zbb (dsAt ops.toList i) tb o.op }:=by
 rcases zha nt g tb (dsAt ops.toList i) i o with e | h
 ·rw [e] at hT
  obtain ⟨h1,_⟩:=hT
  have h2:=h1 rfl
  by_cases hc:zbm tb o.op=0
  ·have:=h2.1 hc; cases this
  ·have:=(h2.2 hc).2 finK; cases this
 ·exact h
theorem zvk (hT:∀ (j:Nat) (o:DOper),(zd6 nt g tb ops.toList)[j]?=some o→Tr call e0 V S j o)
  (hC:∀ (j:Nat) (o:DOper),(zd6 nt g tb ops.toList)[j]?=some o→za4 (LSof V j) o.lo.guard=true→∀ q,q ∈ o.qs→∃ s,(zdx S (ops.size + 1))[q]?=some s∧∀ k',o.lo.op call (LSof V j) e0 s.1 s.2 k'=k' (V j) s.1 s.2)
  (hd:zif tb ops.toList=true) {acc:List Nat} (hs:Sub (zeb [] ops.toList acc) g) (hmo:zih tb ops.toList≠[]→∀ i,i < ops.size→(S i).2≤(S (i + 1)).2):Facts tb nt g ops call e0 V S:=by
 have same:∀ (k q:Nat),q + k≤ops.size→(∀ c,q≤c→c < q + k→¬ zbw tb ops c)→S (q + k)=S q:=by
  intro k
  induction k with
  | zero=>intro q _ _; rfl
  | succ k ih=>
   intro q hsz hno
   have hlt:q + k < ops.size:=by omega
   have ho:ops[q + k]?=some ops[q + k]:=by simp [hlt]
   have hcl:zbm tb ops[q + k].op≠0:=fun e=>hno (q + k) (by omega) (by omega) ⟨_,ho,e⟩
   have h1:=hT _ _ (zep ho)
   rw [← ih q (by omega) (fun c h1 h2=>hno c h1 (by omega))]
   cases hw:za4 (LSof V (q + k)) (lowOper nt g tb (dsAt ops.toList (q + k)) (q + k) ops[q + k]).guard with
   | true=>exact ((h1.1 hw).2 hcl).1
   | false=>exact (h1.2 hw).2
 refine ⟨fun i o ho=>?_,fun i o ho x hx=>?_,hd,hmo⟩
 ·have h1:=hT _ _ (zep (nt:=nt) (g:=g) (tb:=tb) ho)
  have h2:=hC _ _ (zep (nt:=nt) (g:=g) (tb:=tb) ho)
  obtain ⟨gd,e1,e2,e3⟩:=zuo h1
  rw [e3] at h1 h2
  have hil:i < ops.size:=(Array.getElem?_eq_some_iff.1 ho).1
  refine ⟨gd,e1,e2,fun hw=>⟨(h1.1 hw).1,fun hc=>⟨((h1.1 hw).2 hc).1,fun q hq k'=>?_⟩⟩,h1.2⟩
  have hown:=((h1.1 hw).2 hc).2
  by_cases hc2:zbm tb o.op=2
  ·obtain ⟨F,hF,hP⟩:=zpp hc2 (dsAt ops.toList i)
   have h3:=hown finK
   simp only at h3
   rw [hF] at h3 ⊢
   obtain ⟨v,g1,g2⟩:=hP _ _ _ _ _ _ h3 (by simp [finK])
   injection g1 with g1
   subst g1
   exact g2 _ _ k'
  ·have hc1:Nat.beq (zbm tb o.op) 1=true:=by
    have:zbm tb o.op=1:=by
     generalize o.op=p at hc hc2
     cases p<;>simp only [zbm] at hc hc2 ⊢<;>first | rfl | exact absurd rfl hc | exact absurd rfl hc2 | skip
     all_goals (repeat' split at hc)<;>first | exact absurd rfl hc | (simp_all)
    rw [this]; rfl
   have nxt:∃ r,q≤r∧r≤ops.size∧S r=S q∧(∀ c,q≤c→c < r→¬ zbw tb ops c)∧(zbw tb ops r∨r=ops.size):=by
    have:∀ (d q:Nat),q + d=ops.size→∃ r,q≤r∧r≤ops.size∧(∀ c,q≤c→c < r→¬ zbw tb ops c)∧(zbw tb ops r∨r=ops.size):=by
     intro d
     induction d with
     | zero=>intro q hq; exact ⟨q,Nat.le_refl _,by omega,fun c h1 h2=>by omega,.inr (by omega)⟩
     | succ d ih=>
      intro q hq
      by_cases he:zbw tb ops q
      ·exact ⟨q,Nat.le_refl _,by omega,fun c h1 h2=>by omega,.inl he⟩
      ·obtain ⟨r,g1,g2,g3,g4⟩:=ih (q + 1) (by omega)
       refine ⟨r,by omega,g2,fun c h1 h2=>?_,g4⟩
       by_cases e:c=q
       ·rw [e]; exact he
       ·exact g3 c (by omega) h2
    obtain ⟨r,g1,g2,g3,g4⟩:=this (ops.size - q) q (by have:=hq.1; omega)
    refine ⟨r,g1,g2,?_,g3,g4⟩
    have:=same (r - q) q (by omega) (fun c h1 h2=>g3 c h1 (by omega))
    rwa [show q + (r - q)=r by omega] at this
   obtain ⟨r,hqr,hrs,hSr,hno,hr⟩:=nxt
   rw [← hSr]
   have hsort:=zoe (ops.toList.map fun o=>zbm tb o.op) 0
   have hlt:∀ c,c ∈ effs (ops.toList.map fun o=>zbm tb o.op) 0→c < ops.size:=fun c hc=>by
    obtain ⟨p,hp,_⟩:=mem_effs'.1 hc
    exact (Array.getElem?_eq_some_iff.1 hp).1
   have hrw:r ∈ zrx (befs ops.toList) ops.size i [] (effs (ops.toList.map fun o=>zbm tb o.op) 0):=by
    refine zn0 _ [] hsort (hr.imp (fun h=>mem_effs'.2 h) (fun h=>⟨h,fun c hc=>hlt c hc⟩)) (fun d hd=>by cases hd) (fun c hc hcr=>?_) (fun c hc hrc=>?_)
    ·have hce:=mem_effs'.1 hc
     rcases Nat.lt_or_ge c q with h | h
     ·exact hq.2.1 c h hce
     ·exact absurd hce (hno c h hcr)
    ·exact hq.2.2 c (by omega) (mem_effs'.1 hc)
   by_cases hown':r=ze0 ops.size i (effs (ops.toList.map fun o=>zbm tb o.op) 0)
   ·
    have hsp:=zii (m:=ops.size) (i:=i) _ hsort
    rw [← hown'] at hsp
    have hir:i≤r:=by
     rcases hsp.1 with h | h
     ·exact h.2
     ·omega
    have hSi:=same (r - i) i (by omega) (fun c h1 h2 hce=>by
     have:=hsp.2 c (mem_effs'.2 hce) (by omega) (fun d hd=>hlt d hd)
     omega)
    rw [show i + (r - i)=r by omega] at hSi
    rw [hSi]; exact hown k'
   ·have hmem:ops.size - r ∈ (bif Nat.beq (zbm tb o.op) 1 then (zka (befs ops.toList) ops.size i (effs (ops.toList.map fun o=>zbm tb o.op) 0)).map (fun q=>ops.size - q) else []):=by
     rw [hc1,cond_true]
     refine List.mem_map.2 ⟨r,?_,rfl⟩
     unfold zka
     refine List.mem_filter.2 ⟨hrw,?_⟩
     cases hb:Nat.beq r (ze0 ops.size i (effs (ops.toList.map fun o=>zbm tb o.op) 0)) with
     | false=>rfl
     | true=>exact absurd (zak hb) hown'
    obtain ⟨s,g1,g2⟩:=h2 hw _ hmem
    rw [zmh S _ _ (by omega),show ops.size + 1 - 1 - (ops.size - r)=r by omega] at g1
    cases g1
    exact g2 k'
 ·have:=zhk hs i o (by rw [Array.getElem?_toList]; exact ho) x hx
  rwa [List.append_nil] at this
theorem env_of {ρ:Mp} {a0 a:Act} (hnt:nt≤255) {e0:Env} (hE:FitE nt g ρ e0 a0) {σ:Mp} (hle:ρ.le σ) (hlow:∀ (i:Nat) (o:Oper),ops[i]?=some o→zd8 nt o.dst=true) {D:Nat→Nat} (hD:∀ (i:Nat) (o:Oper),ops[i]?=some o→D i=zcc g o.dst)
  (hv:∀ (i:Nat) (o:Oper) (d:Nat),ops[i]?=some o→o.dst=some d→rel σ (V i) (a.tmps.getD d undef)) (hrest:∀ t,(∀ (i:Nat) (o:Oper),ops[i]?=some o→o.dst≠some t)→a.tmps.getD t undef=a0.tmps.getD t undef) (hsz:a.tmps.size=a0.tmps.size):
  FitE nt g σ (zdp D e0 V ops.size) a:=by
 refine ⟨fun t ht=>?_,by rw [hsz]; exact hE.size,fun i hi=>hle.at_ _ _ (hE.st i hi)⟩
 have key:∀ i,i≤ops.size→((∃ (j:Nat) (o:Oper),j < i∧ops[j]?=some o∧o.dst=some t)∧rel σ (eAt (t + 1) (zdp D e0 V i)) (a.tmps.getD t undef))∨
   ((∀ (j:Nat) (o:Oper),j < i→ops[j]?=some o→o.dst≠some t)∧eAt (t + 1) (zdp D e0 V i)=eAt (t + 1) e0):=by
  intro i
  induction i with
  | zero=>intro _; exact .inr ⟨fun j o hj=>by omega,rfl⟩
  | succ i ih=>
   intro hi
   have hil:i < ops.size:=by omega
   have ho:ops[i]?=some ops[i]:=by simp [hil]
   have hg:=zwq (e:=zdp D e0 V i) (v:=V i) hnt (hlow i _ ho) ht
   have he:zdp D e0 V (i + 1)=putE (zdp D e0 V i) (zcc g ops[i].dst) (V i):=by
    show putE (zdp D e0 V i) (D i) (V i)=_
    rw [hD i _ ho]
   rw [he,hg]
   by_cases hd:ops[i].dst=some t
   ·rw [if_pos hd]
    exact .inl ⟨⟨i,_,by omega,ho,hd⟩,hv i _ t ho hd⟩
   ·rw [if_neg hd]
    rcases ih (by omega) with ⟨⟨j,o,h1,h2,h3⟩,h4⟩ | ⟨h1,h2⟩
    ·exact .inl ⟨⟨j,o,by omega,h2,h3⟩,h4⟩
    ·refine .inr ⟨fun j o hj hoj=>?_,h2⟩
     by_cases e:j=i
     ·subst e; rw [ho] at hoj; cases hoj; exact hd
     ·exact h1 j o (by omega) hoj
 rcases key ops.size (Nat.le_refl _) with ⟨_,h⟩ | ⟨h1,h2⟩
 ·exact h
 ·rw [h2,hrest t fun i o ho=>h1 i o (Array.getElem?_eq_some_iff.1 ho).1 ho]
  exact zba hle _ _ (hE.slot t ht)
theorem zp7:∀ (i m:Nat),zm7 (zdx S i) m=true→(∀ j,j + 1 < i→(S j).2≤(S (j + 1)).2)∧(∀ j,j + 1=i→(S j).2≤m)
 | 0,_,_=>⟨fun j h=>by omega,fun j h=>by omega⟩
 | i + 1,m,h=>by
  have e:zm7 (zdx S (i + 1)) m=br (Nat.ble (S i).2 m) (zm7 (zdx S i) (S i).2) false:=rfl
  rw [e] at h
  obtain ⟨h1,h2⟩:=zfg h
  rw [Nat.ble_eq] at h1
  obtain ⟨h3,h4⟩:=zp7 i _ h2
  refine ⟨fun j hj=>?_,fun j hj=>?_⟩
  ·rcases Nat.lt_or_ge (j + 1) i with h | h
   ·exact h3 j h
   ·have:j + 1=i:=by omega
    rw [this]; exact h4 j this
  ·have:j=i:=by omega
   rw [this]; exact h1
theorem zps (hm:P.follows .mixedOrders=true) {L:Lv} (hc:zem P L.call) (hnt:nt≤255) (hops:∀ o,o ∈ ops.toList→zkc P tb o) (hd:zif tb ops.toList=true) {acc:List Nat} (hs:Sub (zeb [] ops.toList acc) g)
  {e:Env} {h:H} {n:Nat} {rr:RR} (hne:rr≠.fail) (hr:zld nt g tb ops.toList L e h n=rr) {ρ:Mp} {a:Act} {w:World} (hi:Inv ρ h n w) (hE:FitE nt g ρ e a) {id:Nat}:
  (Code.region id ops true).wpIn (FR r) m P (PostX nt g ρ h n w a.defers rr) a w:=by
 let D:Nat→Nat:=fun i=>(((zd6 nt g tb ops.toList)[i]?).map (fun o:DOper=>o.lo.dst)).getD 0
 have hDg:∀ j o,(zd6 nt g tb ops.toList)[j]?=some o→D (0 + j)=o.lo.dst:=fun j o ho=>by
  show (((zd6 nt g tb ops.toList)[0 + j]?).map (fun o:DOper=>o.lo.dst)).getD 0=_
  rw [Nat.zero_add,ho]; rfl
 have hcls:∀ o,o ∈ zd6 nt g tb ops.toList→∃ (i:Nat) (p:Oper) (q:List Nat),ops[i]?=some p∧o=DOper.mk (lowOper nt g tb (dsAt ops.toList i) i p) (zbm tb p.op) q∧(q≠[]→zbm tb p.op≠0):=by
  intro o ho
  obtain ⟨i,hi⟩:=List.mem_iff_getElem?.1 ho
  have hil:i < ops.size:=by
   rcases Nat.lt_or_ge i ops.size with h | h
   ·exact h
   ·rw [List.getElem?_eq_none (by rw [zg9]; exact h)] at hi; cases hi
  have hoi:ops[i]?=some ops[i]:=by simp [hil]
  rw [zep hoi] at hi
  refine ⟨i,ops[i],_,hoi,(Option.some.inj hi).symm,fun hq e=>hq ?_⟩
  rw [e]; rfl
 have hst:∀ o,o ∈ zd6 nt g tb ops.toList→o.cls≠0→StillOp o.lo.op:=fun o ho hcl=>by
  obtain ⟨i,p,q,_,rfl,_⟩:=hcls o ho
  exact zhb hcl
 have htr:∃ (V:Nat→AV) (S:Nat→H × Nat),S 0=(h,n)∧(∀ (j:Nat) (o:DOper),(zd6 nt g tb ops.toList)[j]?=some o→Tr L.call e V S (0 + j) o)∧
   chkD L.call e (((S ops.size).1,(S ops.size).2) :: zdx S ops.size) (.nrm (zdp D e V ops.size) (S ops.size).1 (S ops.size).2) (zd6 nt g tb ops.toList).reverse (LSof V ops.size)=rr∧
   (zih tb ops.toList≠[]→∀ i,i < ops.size→(S i).2≤(S (i + 1)).2):=by
  unfold zld at hr
  cases hf:(zih tb ops.toList).isEmpty with
  | true=>
   rw [hf,cond_true] at hr
   unfold z0q at hr
   obtain ⟨V,S,_,hS0,hT,hfin⟩:=zk7 (D:=D) hne (zd6 nt g tb ops.toList) 0 (fun _=>.undef) (fun _=>(h,n)) hst hDg hr
   rw [Nat.zero_add,zg9] at hfin
   exact ⟨V,S,hS0 0 (Nat.le_refl _),hT,hfin,fun hx=>absurd (List.isEmpty_iff.1 hf) hx⟩
  | false=>
   rw [hf,cond_false] at hr
   unfold zu8 at hr
   obtain ⟨V,S,_,hS0,hT,hfin⟩:=zk7 (D:=D) hne (zd6 nt g tb ops.toList) 0 (fun _=>.undef) (fun _=>(h,n)) hst hDg hr
   rw [Nat.zero_add,zg9] at hfin
   obtain ⟨hm1,hfin⟩:=zab hfin hne
   obtain ⟨m1,m2⟩:=zp7 _ _ hm1
   refine ⟨V,S,hS0 0 (Nat.le_refl _),hT,hfin,fun _ i hi=>?_⟩
   rcases Nat.lt_or_ge (i + 1) ops.size with h | h
   ·exact m1 i h
   ·have e:i + 1=ops.size:=by omega
    rw [e]; exact m2 i e
 obtain ⟨V,S,hS0',hT,hfin,hmo⟩:=htr
 have hT':∀ (j:Nat) (o:DOper),(zd6 nt g tb ops.toList)[j]?=some o→Tr L.call e V S j o:=fun j o ho=>by
  have:=hT j o ho
  rwa [Nat.zero_add] at this
 have hls:LSof V ops.size=LSof V (zd6 nt g tb ops.toList).length:=by rw [zg9]
 rw [hls] at hfin
 obtain ⟨hrr,hC⟩:=zyf hne (zd6 nt g tb ops.toList) (fun o ho hq=>by
  obtain ⟨i,p,q,_,rfl,h2⟩:=hcls o ho
  exact zhb (h2 hq)) hfin
 have hF:Facts tb nt g ops L.call e V S:=zvk hT' hC hd hs hmo
 refine wpIn_region_any hm ?_
 refine JJ.all (ρ0:=ρ) (h0:=h) (n0:=n) (w0:=w) (a0:=a) hi.kg hF hc hops hE (fun listed a' w' hJ hall=>?_) ops.size _ a _ ⟨by simp,fun i hi=>?_,rfl,rfl,fun _ _=>rfl,0,ρ,[],Nat.zero_le _,fun c hc=>by omega,⟨fun p hp=>(nomatch hp),fun p hp=>(nomatch hp),fun p hp=>(nomatch hp),fun c _ _ hcl=>?_⟩,fun c _ _ hcl=>?_,?_,fun i o d _ hi=>?_⟩ ?_
 ·obtain ⟨q,σ,l,hq,hl,hP,hN,hG,hv⟩:=hJ.st
  have hend:∀ c,q≤c→¬ zbw tb ops c:=fun c h1 h2=>by
   obtain ⟨c',_,_,k3,k4⟩:=hN c h1 h2 (hall c (zjj h2))
   rw [hall c' (zjj k3)] at k4; cases k4
  have hSq:S ops.size=S q:=by
   have:=hF.same (ops.size - q) q (by omega) (fun c h1 h2 hce=>hend c h1 hce)
   rwa [show q + (ops.size - q)=ops.size by omega] at this
  have hX:∀ s,σ.X l s=σ:=fun s=>Mp.X_off fun p hp=>absurd (zda (hP.each p hp).fl) (hend p.f (hP.each p hp).at_)
  refine ⟨zdp D e V ops.size,(S ops.size).1,(S ops.size).2,σ,by rw [hSq]; exact hG,?_,hJ.df,.inl ⟨rfl,hrr.symm⟩⟩
  refine env_of hnt hE hG.le (fun i o ho=>?_) (fun i o ho=>?_) (fun i o d ho hdd=>?_) (fun t ht=>hJ.rest t fun i o ho _=>ht i o ho) hJ.tsz
  ·obtain ⟨_,_,h2,_⟩:=hF.gd i o ho; exact h2
  ·obtain ⟨gd,e1,e2,e3⟩:=zuo (hT' _ _ (zep (nt:=nt) (g:=g) (tb:=tb) ho))
   have:=hDg i _ (zep (nt:=nt) (g:=g) (tb:=tb) ho)
   rw [Nat.zero_add] at this
   rw [this,e3]
  ·have:=hv i o d ho (hall i (Array.getElem?_eq_some_iff.1 ho).1) hdd
   rwa [hX] at this
 ·rw [getD_replicate_false] at hi; cases hi
 ·rw [getD_replicate_false] at hcl; cases hcl
 ·rw [getD_replicate_false] at hcl; cases hcl
 ·rw [hS0']; exact Goes.heap hi rfl
 ·rw [getD_replicate_false] at hi; cases hi
 ·have:∀ k,cntU (Array.replicate ops.size false) k=k:=by
   intro k
   induction k with
   | zero=>rfl
   | succ k ih=>simp only [cntU]; rw [ih,getD_replicate_false]; rfl
  exact this _
end
end
end Go.VE
