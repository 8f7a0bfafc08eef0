/- The evaluator, part 17: definitions and their laws, over any program. No condition. -/
import Derived.Below
import Derived.Lib.SlKeysI
import Derived.Test.YtjpelmgihpmohaaGreatDoorVE16
set_option linter.all false
namespace Go.VE
noncomputable section
open Go Go.Proofs Go.RowKit
def insI (x:Nat):List Nat→List Nat
 | []=>[x]
 | y :: l=>br (Nat.ble x y) (x :: y :: l) (y :: insI x l)
def zrp:List (AV × AV)→Option (List Nat)
 | []=>some []
 | (.int j u,_) :: l=>br (Nat.beq j 3) (br (Nat.blt u 9223372036854775808) ((zrp l).map (insI u)) none) none
 | _=>none
def ksT:List Nat→Nat→T AV→T AV
 | [],_,t=>t
 | u :: l,i,t=>ksT l (i + 1) (t.put (some (.int 3 u)) (i + 1))
def chR (l:Option (List Nat)) (h:H) (n:Nat) (k:K):RR:=match l with
 | none=>.fail
 | some []=>k .nils h n
 | some ks=>frc (lenL ks) fun m=>br (Nat.blt m 16777216) (alloc (.cells m 1 (ksT ks 0 .nil)) h n fun h' n'=>k (.sl n 0 m m true) h' n') .fail
def zlu (fld:Nat):List AV→H→Nat→K→RR
 | [.ptr b off],h,n,k=>rdO (off + fld) (getO h b) h n fun v h n=>(match v with
  | .map m=>(match getO h m with
   | some (.map l)=>chR (zrp l) h n k
   | _=>.fail)
  | _=>.fail)
 | _,_,_,_=>.fail
def ChLaw (P:Program) (f fld kt:Nat):Prop:=∀ (W:World) (r o b nn:Nat) (D0:DataW Unit) (R:Value→Option (DataW Unit × List MemPlace)),
 W.cell? ⟨r,o + fld,none⟩=some (.map (some b))→W.ownsMap P kt R b nn D0→Maps.size D0≤16777216→
 Calls P f #[.pointer (some ⟨r,o,none⟩)] W fun e w'=>∃ (v:Value) (ss:List Int),e=.returned v∧ss.Perm (intKeys D0)∧Below W.heap.size W w'∧
  ((ss=[]∧v=.slice none 0 0)∨∃ g cap cur,ss≠[]∧v=.slice (some ⟨g,0,none⟩) ss.length ss.length∧W.heap.size≤g∧w'.heap[g]?=some (.cells cur kt (0,0))∧ss.length≤cap∧cur.size=cap∧cur.toList.take ss.length=(ss.mergeSort leI).map encZ)
theorem zjp (x:Nat):∀ l:List Nat,(insI x l).Perm (x :: l)
 | []=>.refl _
 | y :: l=>by
  unfold insI
  rw [zay]
  split
  ·exact .refl _
  ·exact ((zjp x l).cons y).trans (.swap x y l)
theorem zjq (x:Nat):∀ l:List Nat,l.Pairwise (·≤·)→(insI x l).Pairwise (·≤·)
 | [],_=>by simp [insI]
 | y :: l,h=>by
  unfold insI
  rw [zay]
  rw [List.pairwise_cons] at h
  split
  ·rename_i h1
   rw [Nat.ble_eq] at h1
   refine List.pairwise_cons.2 ⟨fun z hz=>?_,List.pairwise_cons.2 h⟩
   rcases List.mem_cons.1 hz with rfl | hz
   ·exact h1
   ·exact Nat.le_trans h1 (h.1 z hz)
  ·rename_i h1
   rw [Nat.ble_eq] at h1
   refine List.pairwise_cons.2 ⟨fun z hz=>?_,zjq x l h.2⟩
   rcases List.mem_cons.1 ((zjp x l).subset hz) with rfl | hz
   ·omega
   ·exact h.1 z hz
def keyI (l:List (AV × AV)):List Nat:=l.map fun p=>match p.1 with | .int _ u=>u | _=>0
theorem zia:∀ {l:List (AV × AV)} {ks:List Nat},zrp l=some ks→ks.Perm (keyI l)∧ks.Pairwise (·≤·)∧∀ p ∈ l,∃ u,p.1=.int 3 u∧u < 9223372036854775808
 | [],ks,h=>by cases h; exact ⟨.refl _,.nil,fun p hp=>nomatch hp⟩
 | (a,v) :: l,ks,h=>by
  cases a<;>first | (exact absurd (show none=some ks from h) (by simp)) | skip
  rename_i j u
  simp only [zrp] at h
  obtain ⟨h1,h'⟩:=za3 h
  obtain ⟨h2,h''⟩:=za3 h'
  rw [Nat.beq_eq] at h1; subst h1
  rw [Nat.blt_eq] at h2
  rw [Option.map_eq_some_iff] at h''
  obtain ⟨ks',h3,rfl⟩:=h''
  obtain ⟨g1,g2,g3⟩:=zia h3
  refine ⟨(zjp u ks').trans (g1.cons u),zjq u ks' g2,fun p hp=>?_⟩
  rcases List.mem_cons.1 hp with rfl | hp
  ·exact ⟨u,rfl,h2⟩
  ·exact g3 p hp
theorem zjr {H:Type} (x:Lit × DataW H):∀ l:List (Lit × DataW H),(DataW.insert x l).Perm (x :: l)
 | []=>.refl _
 | y :: l=>by
  unfold DataW.insert
  split
  ·exact .refl _
  ·exact ((zjr x l).cons y).trans (.swap x y l)
theorem zdh {H:Type}:∀ l:List (Lit × DataW H),(l.foldr DataW.insert []).Perm l
 | []=>.refl _
 | x :: l=>(zjr x _).trans ((zdh l).cons x)
theorem zmz:∀ (ks:List Nat) {i:Nat} {t:T AV} (j:Nat),i + ks.length≤top→
  zag (ksT ks i t) j=if h:i≤j∧j < i + ks.length then .int 3 (ks[j - i]'(by omega)) else zag t j
 | [],i,t,j,_=>by rw [dif_neg (by simp only [List.length_nil]; omega)]; rfl
 | u :: ks,i,t,j,hb=>by
  simp only [List.length_cons] at hb ⊢
  unfold ksT
  rw [zmz ks j (by omega),zdt (by omega)]
  by_cases h1:i + 1≤j∧j < i + 1 + ks.length
  ·rw [dif_pos h1,dif_pos (by omega)]
   congr 1
   have:j - i=(j - (i + 1)) + 1:=by omega
   simp only [this,List.getElem_cons_succ]
  ·rw [dif_neg h1]
   by_cases h2:j=i
   ·subst h2; rw [if_pos rfl,dif_pos (by simp)]; simp
   ·rw [if_neg h2,dif_neg (by omega)]
theorem Goes.below {ρ:Mp} {h:H} {n:Nat} {w w':World} (hi:Inv ρ h n w) (hb:Below w.heap.size w w'):Goes ρ h n w ρ h n w':=
 ⟨⟨fun b o ho=>by
   obtain ⟨r,base,h1,h2⟩:=hi.obj b o ho
   exact ⟨r,base,h1,by rw [hb.block r (hi.rng b r base h1)]; exact h2⟩,hi.inj,hi.dom,fun b r x h=>Nat.lt_of_lt_of_le (hi.rng b r x h) hb.size,hi.lim,hi.st⟩,
  Mp.le_refl _,Nat.le_refl _,hb.size,fun r hr _=>hb.block r hr,fun _ _ h=>h,hb.os,hb.output⟩
theorem zkt {u:Nat} (h:u < 9223372036854775808) {m:Int} (hm:inK .i64 m) (e:u=encI .i64 m):m=u:=
 zh0 hm (by unfold inK; rw [(zb0 .i64).1,(zb0 .i64).2]; simp only; omega) (by rw [← e]; exact (zg4 (by omega)).symm)
theorem zoa {P:Program} {f fld kt:Nat} (hkt:P.underlying kt=some (.int .i64)) (hC:ChLaw P f fld kt) (hcb:zgx P f) {args:List AV} {h:H} {n:Nat} {k:K} {rr:RR} (hr:zlu fld args h n k=rr) (hne:rr≠.fail):CallLaw P f args h n k rr:=by
 refine .inl ⟨hcb,fun ρ w as hi ha=>?_⟩
 cases args with
 | nil=>exact absurd hr.symm hne
 | cons a0 rest=>?_
 cases rest with
 | cons a1 rest=>cases a0<;>exact absurd hr.symm hne
 | nil=>?_
 cases a0<;>try exact absurd hr.symm hne
 rename_i b off
 ·obtain ⟨v,rfl,hv⟩:=zit ha
  obtain ⟨r,o,hρ,rfl⟩:=zca hv
  simp only [zlu] at hr
  cases ho:getO h b with
  | none=>rw [ho] at hr; exact absurd hr.symm hne
  | some ao=>
   rw [ho] at hr
   cases ao with
   | map l=>exact absurd hr.symm hne
   | var vt nn t=>
    simp only [rdO] at hr
    obtain ⟨hlt,hr⟩:=zab hr hne
    rw [Nat.blt_eq] at hlt
    obtain ⟨r',base,h1,h2⟩:=hi.obj b _ ho
    rw [hρ] at h1; cases h1
    obtain ⟨c,e,fz,h3,_,h4⟩:=zbd (zhn h2).2.1
    obtain ⟨cv,h5,h6,_⟩:=h4 _ hlt
    generalize zag t (off + fld)=av at h6 hr
    cases av<;>try exact absurd hr.symm hne
    rename_i mb
    simp only [rel] at h6
    obtain ⟨rm,hρm,rfl⟩:=h6
    simp only at hr
    cases hom:getO h mb with
    | none=>rw [hom] at hr; exact absurd hr.symm hne
    | some am=>
     rw [hom] at hr
     cases am<;>try exact absurd hr.symm hne
     rename_i l
     simp only at hr
     obtain ⟨rm',bm,g1,g2⟩:=hi.obj mb _ hom
     rw [hρm] at g1; cases g1
     obtain ⟨es,clock,g3,_,hst,hlen,hat⟩:=zi9 g2
     cases hs:zrp l with
     | none=>rw [hs] at hr; exact absurd hr.symm hne
     | some ks=>
      rw [hs] at hr
      obtain ⟨k1,k2,k3⟩:=zia hs
      have hkey:∀ i (hi:i < l.length) (hj:i < es.toList.length),∃ u:Nat,(keyI l)[i]'(by simpa [keyI] using hi)=u∧(es.toList[i]'hj).key=encZ u∧u < 9223372036854775808:=fun i hi' hj=>by
       obtain ⟨u,q1,q2⟩:=k3 _ (List.getElem_mem hi')
       have q3:=(hat i hi' hj).1
       rw [q1] at q3
       obtain ⟨m,q4,q5,q6⟩:=za6 (kd:=.i64) q3
       have:=zkt q2 q6 q5
       subst this
       exact ⟨u,by simp [keyI,q1],q4,q2⟩
      have hrd:∀ x ∈ es.toList,∃ u:Nat,x.key=encZ u∧u < 9223372036854775808:=fun x hx=>by
       obtain ⟨i,hj,rfl⟩:=List.getElem_of_mem hx
       obtain ⟨u,_,q2,q3⟩:=hkey i (by omega) hj
       exact ⟨u,q2,q3⟩
      have hwf:∀ u:Nat,u < 9223372036854775808→(Lit.int .i64 (u:Int)).wf=true:=fun u hu=>by
       simp only [Lit.wf,Bool.and_eq_true,decide_eq_true_eq]
       rw [(zb0 .i64).1,(zb0 .i64).2]; simp only; omega
      have hko:∀ u:Nat,u < 9223372036854775808→keyOf P kt (encZ u)=some (.int .i64 u):=fun u hu=>by
       simp [keyOf,hkt,mapKey,hwf u hu]
      let R:Value→Option (DataW Unit × List MemPlace):=fun _=>some (.nil,[])
      have hrg:∀ x ∈ es.toList,∀ u:Nat,x.key=encZ u→u < 9223372036854775808→WideElems.rd P kt R x=some (.int .i64 u,.nil):=fun x hx u q1 q2=>by
       simp only [WideElems.rd,q1,hko u q2]; rfl
      have hln:ks.length=l.length:=by rw [k1.length_eq]; simp [keyI]
      have hroom:ks.length≤16777216:=by
       cases ks with
       | nil=>simp
       | cons u ks'=>
        simp only [chR,zam,zfk] at hr
        obtain ⟨hx,_⟩:=zab hr hne
        rw [Nat.blt_eq] at hx; omega
      have hsz:es.size=l.length:=by rw [← hlen]; simp
      have hfit:WideElems.Fit P kt R es clock:=⟨by rw [hsz,← hln]; exact Nat.le_trans hroom (by decide),hst,fun x hx=>by
       obtain ⟨u,q1,q2⟩:=hrd x hx
       exact ⟨_,hrg x hx u q1 q2⟩⟩
      have hown:w.ownsMap P kt R rm es.size (.map ((es.toList.map (WideElems.rg P kt R)).foldr DataW.insert [])):=⟨es,clock,g3,hfit,Nat.le_refl _,rfl⟩
      have hcell:w.cell? ⟨r,o + off + fld,none⟩=some (.map (some rm)):=by
       simp only [World.cell?,h3]
       rw [Nat.add_assoc]; exact h5
      have hints:(es.toList.map (WideElems.rg P kt R)).map (fun p=>intOf p.1)=(keyI l).map (fun u:Nat=>(u:Int)):=by
       refine List.ext_getElem (by simp [keyI,hsz]) fun i e1 e2=>?_
       simp only [List.length_map] at e1
       obtain ⟨u,q1,q2,q3⟩:=hkey i (by omega) e1
       simp only [List.getElem_map,q1]
       rw [WideElems.rg_of (hrg _ (List.getElem_mem e1) u q2 q3)]
       rfl
      refine (hC w r (o + off) rm es.size _ R hcell hown (by rw [Maps.size_eq,(zdh _).length_eq]; simp only [List.length_map,Array.length_toList]; omega)).mono fun e w' hp=>?_
      obtain ⟨v,ss,rfl,hperm,hB,hcase⟩:=hp
      have hss:ss.Perm (ks.map fun u:Nat=>(u:Int)):=by
       refine hperm.trans ?_
       show (((es.toList.map (WideElems.rg P kt R)).foldr DataW.insert []).map fun p=>intOf p.1).Perm _
       refine ((zdh _).map _).trans ?_
       rw [hints]
       exact (k1.symm.map _)
      have hlss:ss.length=ks.length:=by rw [hss.length_eq,List.length_map]
      have hsrt:ss.mergeSort leI=ks.map fun u:Nat=>(u:Int):=by
       rw [mergeSort_of_perm_i hss]
       refine List.mergeSort_of_pairwise ?_
       rw [List.pairwise_map]
       exact k2.imp fun h=>by simp only [leI,decide_eq_true_eq]; omega
      have hG:=Goes.below hi hB
      cases hks:ks with
      | nil=>
       rw [hks] at hr hlss
       rcases hcase with ⟨_,rfl⟩ | ⟨_,_,_,hne',_⟩
       ·exact ⟨_,rfl,.nils,h,n,ρ,hr,hG,by simp only [rel]⟩
       ·exact absurd (List.eq_nil_of_length_eq_zero hlss) hne'
      | cons u0 ks'=>
       have hchr:chR (some ks) h n k=frc (lenL ks) fun m=>br (Nat.blt m 16777216) (alloc (.cells m 1 (ksT ks 0 .nil)) h n fun h' n'=>k (.sl n 0 m m true) h' n') .fail:=by rw [hks]; rfl
       rw [hchr,zam,zfk] at hr
       obtain ⟨_,hr⟩:=zab hr hne
       obtain ⟨ht,_,hr⟩:=zdy hr hne
       rcases hcase with ⟨hx,_⟩ | ⟨g,cap,cur,_,rfl,hg0,hg,hcap,hcs,htk⟩
       ·rw [hx,hks] at hlss; cases hlss
       ·rw [hsrt,hlss] at htk
        have hadopt:=hG.adopt (ao:=.cells ks.length 1 (ksT ks 0 .nil)) (y:=(1,cur.size)) hi.kg hg0 hg (fun hl=>by
         obtain ⟨b',o',x',_,_,q⟩:=hl
         have:=hi.rng _ _ _ q; omega) ht (by
         refine ⟨⟨fun _=>rfl,.inl rfl⟩,by omega,fun i hi'=>⟨encZ (ks[i]'hi'),?_,?_,?_,by simp⟩⟩
         ·have:=congrArg (fun z=>z[i]?) htk
          simp only [List.getElem?_take,hi',if_true,List.map_map,List.getElem?_map,List.getElem?_eq_getElem hi',Option.map_some,Array.getElem?_toList] at this
          rw [Nat.zero_add]; exact this
         ·rw [zmz ks i (by unfold top; omega),dif_pos (by omega)]
          simp only [Nat.sub_zero]
          have hmem:ks[i] ∈ keyI l:=k1.subset (List.getElem_mem hi')
          obtain ⟨pr,p1,p2⟩:=List.mem_map.1 hmem
          obtain ⟨u,p3,p4⟩:=k3 pr p1
          rw [p3] at p2
          have hu:ks[i] < 9223372036854775808:=by rw [← p2]; exact p4
          simp only [rel]
          exact ⟨.i64,_,rfl,rfl,(zg4 (by omega)).symm,by rw [(zb0 .i64).1]; simp only; omega,by rw [(zb0 .i64).2]; simp only; omega⟩
         ·rw [zmz ks i (by unfold top; omega),dif_pos (by omega)]; rfl)
        refine ⟨_,rfl,_,_,_,_,hr,hadopt,?_⟩
        rw [hlss]
        simp only [rel]
        exact ⟨g,0,0,ks.length,Mp.ext_same _ _ _ _,rfl,Nat.le_refl _,Nat.le_refl _,fun _=>rfl,.inl rfl,fun h=>by cases h⟩
   | rowb _ _ _ _=>exact absurd hr.symm hne
   | bytes m x=>
    simp only [rdO] at hr
    obtain ⟨_,hr⟩:=zab hr hne
    rw [zam] at hr; exact absurd hr.symm hne
   | cells nn es t=>
    simp only [rdO] at hr
    obtain ⟨hlt,hr⟩:=zab hr hne
    rw [Nat.blt_eq] at hlt
    obtain ⟨r',base,h1,h2⟩:=hi.obj b _ ho
    rw [hρ] at h1; cases h1
    obtain ⟨c,e,fz,h3,_,h4⟩:=zbd h2
    obtain ⟨cv,h5,h6,_⟩:=h4 _ hlt
    generalize zag t (off + fld)=av at h6 hr
    cases av<;>try exact absurd hr.symm hne
    rename_i mb
    simp only [rel] at h6
    obtain ⟨rm,hρm,rfl⟩:=h6
    simp only at hr
    cases hom:getO h mb with
    | none=>rw [hom] at hr; exact absurd hr.symm hne
    | some am=>
     rw [hom] at hr
     cases am<;>try exact absurd hr.symm hne
     rename_i l
     simp only at hr
     obtain ⟨rm',bm,g1,g2⟩:=hi.obj mb _ hom
     rw [hρm] at g1; cases g1
     obtain ⟨es,clock,g3,_,hst,hlen,hat⟩:=zi9 g2
     cases hs:zrp l with
     | none=>rw [hs] at hr; exact absurd hr.symm hne
     | some ks=>
      rw [hs] at hr
      obtain ⟨k1,k2,k3⟩:=zia hs
      have hkey:∀ i (hi:i < l.length) (hj:i < es.toList.length),∃ u:Nat,(keyI l)[i]'(by simpa [keyI] using hi)=u∧(es.toList[i]'hj).key=encZ u∧u < 9223372036854775808:=fun i hi' hj=>by
       obtain ⟨u,q1,q2⟩:=k3 _ (List.getElem_mem hi')
       have q3:=(hat i hi' hj).1
       rw [q1] at q3
       obtain ⟨m,q4,q5,q6⟩:=za6 (kd:=.i64) q3
       have:=zkt q2 q6 q5
       subst this
       exact ⟨u,by simp [keyI,q1],q4,q2⟩
      have hrd:∀ x ∈ es.toList,∃ u:Nat,x.key=encZ u∧u < 9223372036854775808:=fun x hx=>by
       obtain ⟨i,hj,rfl⟩:=List.getElem_of_mem hx
       obtain ⟨u,_,q2,q3⟩:=hkey i (by omega) hj
       exact ⟨u,q2,q3⟩
      have hwf:∀ u:Nat,u < 9223372036854775808→(Lit.int .i64 (u:Int)).wf=true:=fun u hu=>by
       simp only [Lit.wf,Bool.and_eq_true,decide_eq_true_eq]
       rw [(zb0 .i64).1,(zb0 .i64).2]; simp only; omega
      have hko:∀ u:Nat,u < 9223372036854775808→keyOf P kt (encZ u)=some (.int .i64 u):=fun u hu=>by
       simp [keyOf,hkt,mapKey,hwf u hu]
      let R:Value→Option (DataW Unit × List MemPlace):=fun _=>some (.nil,[])
      have hrg:∀ x ∈ es.toList,∀ u:Nat,x.key=encZ u→u < 9223372036854775808→WideElems.rd P kt R x=some (.int .i64 u,.nil):=fun x hx u q1 q2=>by
       simp only [WideElems.rd,q1,hko u q2]; rfl
      have hln:ks.length=l.length:=by rw [k1.length_eq]; simp [keyI]
      have hroom:ks.length≤16777216:=by
       cases ks with
       | nil=>simp
       | cons u ks'=>
        simp only [chR,zam,zfk] at hr
        obtain ⟨hx,_⟩:=zab hr hne
        rw [Nat.blt_eq] at hx; omega
      have hsz:es.size=l.length:=by rw [← hlen]; simp
      have hfit:WideElems.Fit P kt R es clock:=⟨by rw [hsz,← hln]; exact Nat.le_trans hroom (by decide),hst,fun x hx=>by
       obtain ⟨u,q1,q2⟩:=hrd x hx
       exact ⟨_,hrg x hx u q1 q2⟩⟩
      have hown:w.ownsMap P kt R rm es.size (.map ((es.toList.map (WideElems.rg P kt R)).foldr DataW.insert [])):=⟨es,clock,g3,hfit,Nat.le_refl _,rfl⟩
      have hcell:w.cell? ⟨r,o + off + fld,none⟩=some (.map (some rm)):=by
       simp only [World.cell?,h3]
       rw [Nat.add_assoc]; exact h5
      have hints:(es.toList.map (WideElems.rg P kt R)).map (fun p=>intOf p.1)=(keyI l).map (fun u:Nat=>(u:Int)):=by
       refine List.ext_getElem (by simp [keyI,hsz]) fun i e1 e2=>?_
       simp only [List.length_map] at e1
       obtain ⟨u,q1,q2,q3⟩:=hkey i (by omega) e1
       simp only [List.getElem_map,q1]
       rw [WideElems.rg_of (hrg _ (List.getElem_mem e1) u q2 q3)]
       rfl
      refine (hC w r (o + off) rm es.size _ R hcell hown (by rw [Maps.size_eq,(zdh _).length_eq]; simp only [List.length_map,Array.length_toList]; omega)).mono fun e w' hp=>?_
      obtain ⟨v,ss,rfl,hperm,hB,hcase⟩:=hp
      have hss:ss.Perm (ks.map fun u:Nat=>(u:Int)):=by
       refine hperm.trans ?_
       show (((es.toList.map (WideElems.rg P kt R)).foldr DataW.insert []).map fun p=>intOf p.1).Perm _
       refine ((zdh _).map _).trans ?_
       rw [hints]
       exact (k1.symm.map _)
      have hlss:ss.length=ks.length:=by rw [hss.length_eq,List.length_map]
      have hsrt:ss.mergeSort leI=ks.map fun u:Nat=>(u:Int):=by
       rw [mergeSort_of_perm_i hss]
       refine List.mergeSort_of_pairwise ?_
       rw [List.pairwise_map]
       exact k2.imp fun h=>by simp only [leI,decide_eq_true_eq]; omega
      have hG:=Goes.below hi hB
      cases hks:ks with
      | nil=>
       rw [hks] at hr hlss
       rcases hcase with ⟨_,rfl⟩ | ⟨_,_,_,hne',_⟩
       ·exact ⟨_,rfl,.nils,h,n,ρ,hr,hG,by simp only [rel]⟩
       ·exact absurd (List.eq_nil_of_length_eq_zero hlss) hne'
      | cons u0 ks'=>
       have hchr:chR (some ks) h n k=frc (lenL ks) fun m=>br (Nat.blt m 16777216) (alloc (.cells m 1 (ksT ks 0 .nil)) h n fun h' n'=>k (.sl n 0 m m true) h' n') .fail:=by rw [hks]; rfl
       rw [hchr,zam,zfk] at hr
       obtain ⟨_,hr⟩:=zab hr hne
       obtain ⟨ht,_,hr⟩:=zdy hr hne
       rcases hcase with ⟨hx,_⟩ | ⟨g,cap,cur,_,rfl,hg0,hg,hcap,hcs,htk⟩
       ·rw [hx,hks] at hlss; cases hlss
       ·rw [hsrt,hlss] at htk
        have hadopt:=hG.adopt (ao:=.cells ks.length 1 (ksT ks 0 .nil)) (y:=(1,cur.size)) hi.kg hg0 hg (fun hl=>by
         obtain ⟨b',o',x',_,_,q⟩:=hl
         have:=hi.rng _ _ _ q; omega) ht (by
         refine ⟨⟨fun _=>rfl,.inl rfl⟩,by omega,fun i hi'=>⟨encZ (ks[i]'hi'),?_,?_,?_,by simp⟩⟩
         ·have:=congrArg (fun z=>z[i]?) htk
          simp only [List.getElem?_take,hi',if_true,List.map_map,List.getElem?_map,List.getElem?_eq_getElem hi',Option.map_some,Array.getElem?_toList] at this
          rw [Nat.zero_add]; exact this
         ·rw [zmz ks i (by unfold top; omega),dif_pos (by omega)]
          simp only [Nat.sub_zero]
          have hmem:ks[i] ∈ keyI l:=k1.subset (List.getElem_mem hi')
          obtain ⟨pr,p1,p2⟩:=List.mem_map.1 hmem
          obtain ⟨u,p3,p4⟩:=k3 pr p1
          rw [p3] at p2
          have hu:ks[i] < 9223372036854775808:=by rw [← p2]; exact p4
          simp only [rel]
          exact ⟨.i64,_,rfl,rfl,(zg4 (by omega)).symm,by rw [(zb0 .i64).1]; simp only; omega,by rw [(zb0 .i64).2]; simp only; omega⟩
         ·rw [zmz ks i (by unfold top; omega),dif_pos (by omega)]; rfl)
        refine ⟨_,rfl,_,_,_,_,hr,hadopt,?_⟩
        rw [hlss]
        simp only [rel]
        exact ⟨g,0,0,ks.length,Mp.ext_same _ _ _ _,rfl,Nat.le_refl _,Nat.le_refl _,fun _=>rfl,.inl rfl,fun h=>by cases h⟩
end
end Go.VE
namespace Go.VE
noncomputable section
open Go Go.Proofs Go.RowKit
def isInt (v:AV) (f:Nat→Nat→Bool):Bool:=
 @AV.rec (fun _=>Bool) false f (fun _=>false) (fun _ _=>false) (fun _ _ _ _ _=>false) (fun _ _=>false) (fun _ _ _=>false) false false false false false (fun _=>false) (fun _ _ _=>false) (fun _ _=>false) (fun _ _=>false) false (fun _ _ _ _=>false) (fun _=>false) (fun _ _ _=>false) v
def isCons (v:AV) (f:AV→AV→Bool):Bool:=
 @AV.rec (fun _=>Bool) false (fun _ _=>false) (fun _=>false) (fun _ _=>false) (fun _ _ _ _ _=>false) (fun _ _=>false) (fun _ _ _=>false) false false false false false (fun _=>false) (fun _ _ _=>false) (fun _ _=>false) (fun _ _=>false) false (fun z0 z1 _ _=>f z0 z1) (fun _=>false) (fun _ _ _=>false) v
def samA (a:AV):AV→Bool:=
 @AV.rec (fun _=>AV→Bool)
  (fun b=>match b with | .undef=>true | _=>false)
  (fun k u b=>isInt b fun k' u'=>br (Nat.beq k k') (Nat.beq u u') false)
  (fun x b=>match b with | .bool y=>br x y (!y) | _=>false)
  (fun p o b=>match b with | .ptr p' o'=>br (Nat.beq p p') (Nat.beq o o') false | _=>false)
  (fun p o l c x b=>match b with | .sl p' o' l' c' y=>br (Nat.beq p p') (br (Nat.beq o o') (br (Nat.beq l l') (br (Nat.beq c c') (br x y (!y)) false) false) false) false | _=>false)
  (fun n x b=>match b with | .str n' x'=>br (Nat.beq n n') (Nat.beq x x') false | _=>false)
  (fun t _ ih b=>match b with | .iface t' v'=>br (Nat.beq t t') (ih v') false | _=>false)
  (fun b=>match b with | .nilp=>true | _=>false)
  (fun b=>match b with | .nils=>true | _=>false)
  (fun b=>match b with | .nili=>true | _=>false)
  (fun b=>match b with | .nilm=>true | _=>false)
  (fun b=>match b with | .nilf=>true | _=>false)
  (fun p b=>match b with | .map p'=>Nat.beq p p' | _=>false)
  (fun f _ ih b=>match b with | .func f' c'=>br (Nat.beq f f') (ih c') false | _=>false)
  (fun _ ih b=>match b with | .agg l'=>ih l' | _=>false)
  (fun _ ih b=>match b with | .tup l'=>ih l' | _=>false)
  (fun b=>match b with | .nl=>true | _=>false)
  (fun _ _ iha ihl b=>isCons b fun a' l'=>br (iha a') (ihl l') false)
  (fun p b=>match b with | .yld p'=>Nat.beq p p' | _=>false)
  (fun k m x b=>match b with | .ukn k' m' x'=>br (Nat.beq k k') (br (Nat.beq m m') (Nat.beq x x') false) false | _=>false) a
theorem brb {c a:Bool} (h:br c a false=true):c=true∧a=true:=by cases c<;>first | exact ⟨rfl,h⟩ | cases h
theorem bre {x y:Bool} (h:br x y (!y)=true):x=y:=by cases x<;>cases y<;>first | rfl | cases h
theorem zfu:∀ (a b:AV),samA a b=true→a=b:=by
 intro a
 induction a with
 | undef=>intro b h; cases b<;>first | rfl | cases h
 | int k u=>intro b h; cases b<;>first | (obtain ⟨h1,h2⟩:=brb (show br _ _ false=true from h); rw [zak h1,zak h2]) | cases h
 | bool x=>intro b h; cases b<;>first | (rw [bre h]) | cases h
 | ptr p o=>intro b h; cases b<;>first | (obtain ⟨h1,h2⟩:=brb (show br _ _ false=true from h); rw [zak h1,zak h2]) | cases h
 | sl p o l c x=>
  intro b h
  cases b<;>first
   | (obtain ⟨h1,h⟩:=brb (show br _ _ false=true from h); obtain ⟨h2, h⟩ := brb h; obtain ⟨h3, h⟩ := brb h; obtain ⟨h4, h⟩ := brb h; rw [zak h1, zak h2, zak h3, zak h4, bre h])
   | cases h
 | str n x=>intro b h; cases b<;>first | (obtain ⟨h1,h2⟩:=brb (show br _ _ false=true from h); rw [zak h1,zak h2]) | cases h
 | iface t v ih=>intro b h; cases b<;>first | (obtain ⟨h1,h2⟩:=brb (show br _ _ false=true from h); rw [zak h1,ih _ h2]) | cases h
 | nilp=>intro b h; cases b<;>first | rfl | cases h
 | nils=>intro b h; cases b<;>first | rfl | cases h
 | nili=>intro b h; cases b<;>first | rfl | cases h
 | nilm=>intro b h; cases b<;>first | rfl | cases h
 | nilf=>intro b h; cases b<;>first | rfl | cases h
 | map p=>intro b h; cases b<;>first | (rw [zak h]) | cases h
 | func f c ih=>intro b h; cases b<;>first | (obtain ⟨h1,h2⟩:=brb (show br _ _ false=true from h); rw [zak h1,ih _ h2]) | cases h
 | agg l ih=>intro b h; cases b<;>first | (rw [ih _ h]) | cases h
 | tup l ih=>intro b h; cases b<;>first | (rw [ih _ h]) | cases h
 | nl=>intro b h; cases b<;>first | rfl | cases h
 | cons a l iha ihl=>
  intro b h
  cases b<;>first
   | (rename_i a' l'; have e : samA (.cons a l) (.cons a' l') = br (samA a a') (samA l l') false := rfl; rw [e] at h; obtain ⟨h1, h2⟩ := brb h; rw [iha _ h1, ihl _ h2])
   | cases h
 | yld p=>intro b h; cases b<;>first | (rw [zak h]) | cases h
 | ukn k m x=>intro b h; cases b<;>first | (obtain ⟨h1,h⟩:=brb (show br _ _ false=true from h); obtain ⟨h2,h3⟩:=brb h; rw [zak h1,zak h2,zak h3]) | cases h
def samO (a b:Option AV):Bool:=match a,b with | some x,some y=>samA x y | none,none=>true | _,_=>false
theorem zzy {a b:Option AV} (h:samO a b=true):a=b:=by
 cases a<;>cases b<;>first | rfl | (rw [zfu _ _ h]) | cases h
def samT (a:T AV):T AV→Bool:=
 @T.rec AV (fun _=>T AV→Bool) (fun b=>match b with | .nil=>true | _=>false)
  (fun _ v _ gl gr b=>match b with | .node l' v' r'=>br (samO v v') (br (gl l') (gr r') false) false | _=>false) a
theorem zuh:∀ (a b:T AV),samT a b=true→a=b:=by
 intro a
 induction a with
 | nil=>intro b h; cases b<;>first | rfl | cases h
 | node l v r ihl ihr=>
  intro b h
  cases b<;>first
   | (obtain ⟨h1,h⟩:=brb (show br _ _ false=true from h); obtain ⟨h2, h3⟩ := brb h; rw [zzy h1, ihl _ h2, ihr _ h3])
   | cases h
def samM:List (AV × AV)→List (AV × AV)→Bool
 | [],[]=>true
 | (a,b) :: l,(c,d) :: m=>br (samA a c) (br (samA b d) (samM l m) false) false
 | _,_=>false
theorem zug:∀ {l m:List (AV × AV)},samM l m=true→l=m
 | [],[],_=>rfl
 | (a,b) :: l,(c,d) :: m,h=>by
  obtain ⟨h1,h⟩:=brb (show br _ _ false=true from h)
  obtain ⟨h2,h3⟩:=brb h
  rw [zfu _ _ h1,zfu _ _ h2,zug h3]
 | [],_ :: _,h=>by cases h
 | _ :: _,[],h=>by cases h
def samB (a b:AO):Bool:=match a,b with
 | .cells n e t,.cells n' e' t'=>br (Nat.beq n n') (br (Nat.beq e e') (samT t t') false) false
 | .bytes n x,.bytes n' x'=>br (Nat.beq n n') (Nat.beq x x') false
 | .map l,.map l'=>samM l l'
 | .rowb a m n x,.rowb a' m' n' x'=>br (Nat.beq a a') (br (Nat.beq m m') (br (Nat.beq n n') (Nat.beq x x') false) false) false
 | .var a n t,.var a' n' t'=>br (Nat.beq a a') (br (Nat.beq n n') (samT t t') false) false
 | _,_=>false
theorem zzx {a b:AO} (h:samB a b=true):a=b:=by
 cases a<;>cases b<;>simp only [samB] at h<;>try (exact absurd h (by decide))
 ·obtain ⟨h1,h⟩:=brb h
  obtain ⟨h2,h3⟩:=brb h
  rw [zak h1,zak h2,zuh _ _ h3]
 ·obtain ⟨h1,h2⟩:=brb h
  rw [zak h1,zak h2]
 ·rw [zug h]
 ·obtain ⟨h1,h⟩:=brb h
  obtain ⟨h2,h3⟩:=brb h
  rw [zak h1,zak h2,zuh _ _ h3]
 ·obtain ⟨h1,h⟩:=brb h
  obtain ⟨h2,h⟩:=brb h
  obtain ⟨h3,h4⟩:=brb h
  rw [zak h1,zak h2,zak h3,zak h4]
def samL:List AV→List AV→Bool
 | [],[]=>true
 | a :: l,b :: m=>br (samA a b) (samL l m) false
 | _,_=>false
theorem zuf:∀ {l m:List AV},samL l m=true→l=m
 | [],[],_=>rfl
 | a :: l,b :: m,h=>by
  obtain ⟨h1,h2⟩:=brb (show br _ _ false=true from h)
  rw [zfu _ _ h1,zuf h2]
 | [],_ :: _,h=>by cases h
 | _ :: _,[],h=>by cases h
abbrev Part:=List (Nat × AO)
def zjt:Part→Bool
 | []=>true
 | (b,_) :: l=>br (Nat.blt b 18446744073709551615) (zjt l) false
def ztc:Part→Bool
 | []=>true
 | (b,_) :: l=>br (Nat.ble KG b) (ztc l) false
def subL (h:H):Part→Bool
 | []=>true
 | (b,o) :: l=>br (match getO h b with | some o'=>samB o o' | none=>false) (subL h l) false
def zl8:Part→H→H
 | [],h=>h
 | (b,o) :: l,h=>zl8 l (setO h b o)
def zq2:Part→H→H
 | [],h=>h
 | (b,_) :: l,h=>zq2 l (zey h b)
theorem zfv {h:H}:∀ {l:Part},subL h l=true→∀ b o,(b,o) ∈ l→getO h b=some o
 | [],_,_,_,hm=>nomatch hm
 | (c,p) :: l,hs,b,o,hm=>by
  obtain ⟨h1,h2⟩:=brb (show br _ _ false=true from hs)
  rcases List.mem_cons.1 hm with e | hm
  ·have e1:b=c:=congrArg Prod.fst e
   have e2:o=p:=congrArg Prod.snd e
   rw [e1,e2]
   cases hg:getO h c with
   | none=>rw [hg] at h1; cases h1
   | some o'=>rw [hg] at h1; rw [zzx h1]
  ·exact zfv h2 b o hm
theorem zds:∀ {l:Part} {h:H},zjt l=true→∀ {b:Nat} {o:AO},getO (zl8 l h) b=some o→(b,o) ∈ l∨((∀ p,(b,p) ∉ l)∧getO h b=some o)
 | [],h,_,b,o,hg=>.inr ⟨fun p hp=>(nomatch hp),hg⟩
 | (c,p) :: l,h,hk,b,o,hg=>by
  obtain ⟨h1,h2⟩:=brb (show br _ _ false=true from hk)
  rw [Nat.blt_eq] at h1
  rcases zds h2 (show getO (zl8 l (setO h c p)) b=some o from hg) with h3 | ⟨h3,h4⟩
  ·exact .inl (List.mem_cons_of_mem _ h3)
  ·rw [za8 h1] at h4
   split at h4
   ·rename_i hb; subst hb; cases h4; exact .inl List.mem_cons_self
   ·rename_i hb
    refine .inr ⟨fun q hq=>?_,h4⟩
    rcases List.mem_cons.1 hq with e | hq
    ·cases e; exact hb rfl
    ·exact h3 q hq
theorem zpr:∀ {l:Part} {h:H},zjt l=true→∀ {b:Nat} {o:AO},getO (zq2 l h) b=some o→(∀ p,(b,p) ∉ l)∧getO h b=some o
 | [],h,_,b,o,hg=>⟨fun p hp=>(nomatch hp),hg⟩
 | (c,p) :: l,h,hk,b,o,hg=>by
  obtain ⟨h1,h2⟩:=brb (show br _ _ false=true from hk)
  rw [Nat.blt_eq] at h1
  obtain ⟨h3,h4⟩:=zpr h2 (show getO (zq2 l (zey h c)) b=some o from hg)
  rw [zdu h1] at h4
  split at h4
  ·cases h4
  ·rename_i hb
   refine ⟨fun q hq=>?_,h4⟩
   rcases List.mem_cons.1 hq with e | hq
   ·cases e; exact hb rfl
   ·exact h3 q hq
theorem zky:∀ {l:Part},ztc l=true→∀ b o,(b,o) ∈ l→KG≤b
 | [],_,_,_,hm=>nomatch hm
 | (c,p) :: l,hk,b,o,hm=>by
  obtain ⟨h1,h2⟩:=brb (show br _ _ false=true from hk)
  rw [Nat.ble_eq] at h1
  rcases List.mem_cons.1 hm with e | hm
  ·cases e; exact h1
  ·exact zky h2 b o hm
structure Memo where
 args:List AV
 keep:Part
 old:Part
 n0:Nat
 v:AV
 new:Part
 n1:Nat
def Memo.h0 (m:Memo):H:=zl8 m.keep (zl8 m.old .nil)
def Memo.chk (m:Memo):K:=fun v h n=>br (Nat.beq n m.n1) (br (samA m.v v) (br (subL h m.keep) (br (subL h m.new) (.fin .undef .nil 0) .fail) .fail) .fail) .fail
def Memo.good (m:Memo):Bool:=br (zjt m.keep) (br (zjt m.old) (br (zjt m.new) (br (ztc m.new) (br (Nat.ble m.n0 18446744073709551615) true false) false) false) false) false
def zlv (m:Memo) (args:List AV) (h:H) (n:Nat) (k:K):RR:=
 br (samL m.args args) (br (Nat.ble n m.n0) (br (subL h m.keep) (br (subL h m.old) (k m.v (zl8 m.new (zq2 m.old h)) m.n1) .fail) .fail) .fail) .fail
theorem Inv.prune {ρ:Mp} {h g:H} {n m:Nat} {w:World} (hi:Inv ρ h n w) (hs:∀ b o,getO g b=some o→getO h b=some o) (hn:n≤m) (hm:m≤18446744073709551615):Inv ρ g m w:=
 ⟨fun b o hb=>hi.obj b o (hs b o hb),fun b c o p r x y hb hc=>hi.inj b c o p r x y (hs b o hb) (hs c p hc),fun b hb=>Nat.lt_of_lt_of_le (hi.dom b hb) hn,hi.rng,hm,hi.st⟩
theorem zh2 {ρ:Mp} {h g:H} (hs:∀ b o,getO g b=some o→getO h b=some o) {r:Nat} (hl:live ρ g r):live ρ h r:=by
 obtain ⟨b,o,x,h1,h2,h3⟩:=hl
 exact ⟨b,o,x,h1,hs b o h2,h3⟩
theorem Memo.post {m:Memo} (hg:m.good=true) {ρ:Mp} {h:H} {n:Nat} {w:World} (hi:Inv ρ h n w) (hn:n≤m.n0) (hk:subL h m.keep=true) (ho:subL h m.old=true) {k:K} {rr:RR} (hr:k m.v (zl8 m.new (zq2 m.old h)) m.n1=rr) {rv:Value} {w':World}
  (hp:Post ρ m.h0 m.n0 w m.chk (.fin .undef .nil 0) rv w'):Post ρ h n w k rr rv w':=by
 obtain ⟨v,h1,n1,σ,p1,p2,p3⟩:=hp
 unfold Memo.chk at p1
 have hne:RR.fin .undef .nil 0≠.fail:=by simp
 obtain ⟨c1,p1⟩:=zab p1 hne
 obtain ⟨c2,p1⟩:=zab p1 hne
 obtain ⟨c3,p1⟩:=zab p1 hne
 obtain ⟨c4,_⟩:=zab p1 hne
 have:=zak c1; subst this
 have:=zfu _ _ c2; subst this
 obtain ⟨g1,hg'⟩:=brb (show br _ _ false=true from hg)
 obtain ⟨g2,hg'⟩:=brb hg'
 obtain ⟨g3,hg'⟩:=brb hg'
 obtain ⟨g4,g5⟩:=brb hg'
 have hhi:∀ b o,(b,o) ∈ m.new→KG≤b:=zky g4
 have h0h:∀ b o,getO m.h0 b=some o→getO h b=some o:=fun b o hb=>by
  rcases zds g1 hb with q | ⟨_,q⟩
  ·exact zfv hk b o q
  ·rcases zds g2 q with q | ⟨_,q⟩
   ·exact zfv ho b o q
   ·exact absurd q (by rw [z0w]; simp)
 have two:∀ b o,getO (zl8 m.new (zq2 m.old h)) b=some o→(getO h1 b=some o∧(KG≤b∨getO h b=some o))∨(getO m.h0 b=none∧getO h b=some o):=fun b o hb=>by
  rcases zds g3 hb with q | ⟨_,q⟩
  ·exact .inl ⟨zfv c4 b o q,.inl (hhi b o q)⟩
  ·obtain ⟨q1,q2⟩:=zpr g2 q
   by_cases hx:∃ p,(b,p) ∈ m.keep
   ·obtain ⟨p,hp⟩:=hx
    have e:=zfv hk b p hp
    rw [q2] at e; cases e
    exact .inl ⟨zfv c3 b o hp,.inr q2⟩
   ·refine .inr ⟨?_,q2⟩
    cases h2:getO m.h0 b with
    | none=>rfl
    | some p=>
     rcases zds g1 h2 with r | ⟨_,r⟩
     ·exact absurd ⟨p,r⟩ hx
     ·rcases zds g2 r with r | ⟨_,r⟩
      ·exact absurd r (q1 p)
      ·exact absurd r (by rw [z0w]; simp)
 have apart:∀ c p r y,getO m.h0 c=none→getO h c=some p→σ c=some (r,y)→ρ c=some (r,y)∧r < w.heap.size∧¬ live ρ m.h0 r:=fun c p r y e1 e2 e3=>by
  obtain ⟨r',y',e4,_⟩:=hi.obj c p e2
  have e5:=p2.le.at_ _ _ e4
  rw [e3] at e5; cases e5
  refine ⟨e4,hi.rng _ _ _ e4,fun hl=>?_⟩
  obtain ⟨b,o,x,_,l2,l3⟩:=hl
  have:=hi.inj b c o p r x y (h0h b o l2) e2 l3 e4
  subst this
  rw [e1] at l2; cases l2
 refine ⟨_,_,_,σ,hr,⟨⟨fun b o hb=>?_,fun b c o p r x y hb hc q1 q2=>?_,p2.inv.dom,p2.inv.rng,p2.inv.lim,p2.inv.st⟩,p2.le,Nat.le_trans hn p2.next,p2.size,fun r hr' hl=>p2.keep r hr' (fun hx=>hl (zh2 h0h hx)),fun r hr' hl=>?_,p2.io⟩,p3⟩
 ·rcases two b o hb with ⟨q,_⟩ | ⟨q1,q2⟩
  ·exact p2.inv.obj b o q
  ·obtain ⟨r,base,e1,e2⟩:=hi.obj b o q2
   obtain ⟨_,e4,e5⟩:=apart b o r base q1 q2 (p2.le.at_ _ _ e1)
   refine ⟨r,base,p2.le.at_ _ _ e1,?_⟩
   rw [p2.keep r e4 e5,p2.le.gs _ _ e1]
   exact zb1 p2.le e2
 ·have mix:∀ b c o p x y,getO h1 b=some o→(KG≤b∨getO h b=some o)→getO m.h0 c=none→getO h c=some p→σ b=some (r,x)→σ c=some (r,y)→b=c:=fun b c o p x y f1 f2 f3 f4 f5 f6=>by
   obtain ⟨e1,e2,e3⟩:=apart c p r y f3 f4 f6
   rcases f2 with f2 | f2
   ·exact absurd (p2.lives r e2 ⟨b,o,x,f2,f1,f5⟩) e3
   ·obtain ⟨r',x',e4,_⟩:=hi.obj b o f2
    have e5:=p2.le.at_ _ _ e4
    rw [f5] at e5; cases e5
    exact hi.inj b c o p r x y f2 f4 e4 e1
  rcases two b o hb with ⟨a1,a2⟩ | ⟨a1,a2⟩<;>rcases two c p hc with ⟨b1,b2⟩ | ⟨b1,b2⟩
  ·exact p2.inv.inj b c o p r x y a1 b1 q1 q2
  ·exact mix b c o p x y a1 a2 b1 b2 q1 q2
  ·exact (mix c b p o y x b1 b2 a1 a2 q2 q1).symm
  ·obtain ⟨e1,_,_⟩:=apart b o r x a1 a2 q1
   obtain ⟨e2,_,_⟩:=apart c p r y b1 b2 q2
   exact hi.inj b c o p r x y a2 b2 e1 e2
 ·obtain ⟨b,o,x,l1,l2,l3⟩:=hl
  rcases two b o l2 with ⟨q,_⟩ | ⟨q1,q2⟩
  ·exact zh2 h0h (p2.lives r hr' ⟨b,o,x,l1,q,l3⟩)
  ·obtain ⟨e1,_,_⟩:=apart b o r x q1 q2 l3
   exact ⟨b,o,x,l1,q2,e1⟩
theorem Memo.law {P:Program} {f:Nat} {call:zbc} (hc:zem P call) {m:Memo} (hg:m.good=true) (hrun:call f m.args m.h0 m.n0 m.chk=.fin .undef .nil 0) {args:List AV} {h:H} {n:Nat} {k:K} {rr:RR} (hr:zlv m args h n k=rr) (hne:rr≠.fail):CallLaw P f args h n k rr:=by
 unfold zlv at hr
 obtain ⟨h1,hr1⟩:=zab hr hne
 obtain ⟨h2,hr2⟩:=zab hr1 hne
 obtain ⟨h3,hr3⟩:=zab hr2 hne
 obtain ⟨h4,hr4⟩:=zab hr3 hne
 have:=zuf h1; subst this
 rw [Nat.ble_eq] at h2
 obtain ⟨g1,hg'⟩:=brb (show br _ _ false=true from hg)
 obtain ⟨g2,hg'⟩:=brb hg'
 obtain ⟨g3,hg'⟩:=brb hg'
 obtain ⟨g4,g5⟩:=brb hg'
 obtain ⟨g5,_⟩:=brb g5
 rw [Nat.ble_eq] at g5
 have h0h:∀ b o,getO m.h0 b=some o→getO h b=some o:=fun b o hb=>by
  rcases zds g1 hb with q | ⟨_,q⟩
  ·exact zfv h3 b o q
  ·rcases zds g2 q with q | ⟨_,q⟩
   ·exact zfv h4 b o q
   ·exact absurd q (by rw [z0w]; simp)
 rcases hc f m.args m.h0 m.n0 m.chk _ hrun (by simp) with ⟨c1,c2⟩ | c2
 ·refine .inl ⟨c1,fun ρ w as hi ha=>(c2 ρ w as (hi.prune h0h h2 g5) ha).mono fun e w' hp=>?_⟩
  obtain ⟨rv,e1,hp⟩:=hp
  exact ⟨rv,e1,Memo.post hg hi h2 h3 h4 hr4 hp⟩
 ·refine .inr fun ρ w as hi ha=>?_
  obtain ⟨rv,w',e1,hp⟩:=c2 ρ w as (hi.prune h0h h2 g5) ha
  exact ⟨rv,w',e1,Memo.post hg hi h2 h3 h4 hr4 hp⟩
end
end Go.VE
namespace Go.VE
noncomputable section
open Go
def xDr (l:List DOper):X:=z0q l l.reverse
def xDrM (l:List DOper):X:=zu8 l l.reverse
def ctOf:List (Nat × LF)→T (Option LF)
 | []=>.nil
 | p :: l=>(ctOf l).put (some (some p.2)) (p.1 + 1)
inductive IK where
 | idx | cnt | cmp | typeOf | comp | tElem | kind | assg | impl | valueOf | vType | isNil | vElem | vSet | same | mnz (ty:Nat)
 deriving Inhabited,DecidableEq
def intrK (T:RTab) (k:IK):List AV→H→Nat→K→RR:=
 @IK.casesOn (fun _=>List AV→H→Nat→K→RR) k iIdx iCnt iCmp (zon T) (zyr T) (zs1 T) (zyu T) (zyq T) (zyt T) (zlw T) (zs4 T) (zsw T) (zs2 T) (zyy T) zyx iMnz
def zgy (a:Nat):List (Nat × IK)→Option IK
 | []=>none
 | (c,v) :: l=>br (Nat.beq a c) (some v) (zgy a l)
def zmx:Option (Option LF)→Option LF
 | some r=>r
 | none=>none
def zop (T:RTab):Option IK→Option (List AV→H→Nat→K→RR)
 | some k=>some (intrK T k)
 | none=>none
def reckM (bit:Nat→Bool) (ct:T (Option LF)) (T:RTab) (is:List (Nat × IK)) (ex:Nat→Option (List AV→H→Nat→K→RR)) (it:zrz):Cx:=
 { code:=fun f=>zmx (ct.get (Nat.succ f)),intr:=fun f => br (bit f) (match ex f with | some i => some i | none => zop T (zgy f is)) none,iter:=it }
end
end Go.VE
namespace Go.VE
noncomputable section
namespace Lo
def p (a:Nat) (o:Op'):LOper:=⟨a,none,o⟩
def q (o:Op'):LOper:=⟨0,none,o⟩
def m (k:Nat):LOper:=⟨0,none,oMv (sT k)⟩
def w (k:Nat):LOper:=⟨0,none,oMv (sL k)⟩
def g (a i:Nat) (b:Bool) (o:Op'):LOper:=⟨a,some (i,b),o⟩
def D (o:LOper) (c:Nat) (l:List Nat):DOper:=⟨o,c,l⟩
def L (k:Nat):Sx:=sL k
def t (k:Nat):Sx:=sT k
def i (u:Nat):Sx:=sC (.int 3 u)
def s (n x:Nat):Sx:=sC (.str n x)
def M:Nat:=18446744073709551616
def Z:Nat:=9223372036854775808
def R:X:=xRet
abbrev Md:=H→Nat→RR
def b {β:Type} (c:Bool) (x y:β):β:=@Bool.rec (fun _=>β) y x c
def fr {β:Type} (x:Nat) (k:Nat→β):β:=@Nat.rec (fun _=>β) (k 0) (fun m _=>k (Nat.succ m)) x
def aI (v:AV) (f:Nat→Nat→RR):RR:=@AV.rec (fun _=>RR) .fail (f) (fun _=>.fail) (fun _ _=>.fail) (fun _ _ _ _ _=>.fail) (fun _ _=>.fail) (fun _ _ _=>.fail) .fail .fail .fail .fail .fail (fun _=>.fail) (fun _ _ _=>.fail) (fun _ _=>.fail) (fun _ _=>.fail) .fail (fun _ _ _ _=>.fail) (fun _=>.fail) (fun _ _ _=>.fail) v
def aB (v:AV) (f:Bool→RR):RR:=@AV.rec (fun _=>RR) .fail (fun _ _=>.fail) (f) (fun _ _=>.fail) (fun _ _ _ _ _=>.fail) (fun _ _=>.fail) (fun _ _ _=>.fail) .fail .fail .fail .fail .fail (fun _=>.fail) (fun _ _ _=>.fail) (fun _ _=>.fail) (fun _ _=>.fail) .fail (fun _ _ _ _=>.fail) (fun _=>.fail) (fun _ _ _=>.fail) v
def aP (v:AV) (f:Nat→Nat→RR):RR:=@AV.rec (fun _=>RR) .fail (fun _ _=>.fail) (fun _=>.fail) (f) (fun _ _ _ _ _=>.fail) (fun _ _=>.fail) (fun _ _ _=>.fail) .fail .fail .fail .fail .fail (fun _=>.fail) (fun _ _ _=>.fail) (fun _ _=>.fail) (fun _ _=>.fail) .fail (fun _ _ _ _=>.fail) (fun _=>.fail) (fun _ _ _=>.fail) v
def a2 (kd:Nat) (x y:AV) (f:Nat→Nat→RR):RR:=aI x fun i a=>aI y fun j c=>b (Nat.beq i kd) (b (Nat.beq j kd) (f a c) .fail) .fail
def gc (h:T AV) (k:Nat):Option AV:=@T.rec AV (fun _=>Nat→Option AV) (fun _=>none) (fun _ v _ gl gr k=>@Bool.rec (fun _=>Option AV) (@Bool.rec (fun _=>Option AV) (gr (Nat.div k 2)) (gl (Nat.div k 2)) (Nat.beq (Nat.mod k 2) 0)) v (Nat.beq k 1)) h k
def hF (kd:Nat):Nat:=b (Nat.beq kd 3) 9223372036854775808 (hiN kd)
def oU (o:Option AV):AV:=@Option.rec AV (fun _=>AV) .undef (fun v=>v) o
def rd (i:Nat) (o:Option AO) (h:H) (n:Nat) (k:K):RR:=@Option.rec AO (fun _=>RR) .fail (fun o=>@AO.rec (fun _=>RR) (fun m _ t=>b (Nat.ble (Nat.succ i) m) (k (oU (gc t (Nat.succ i))) h n) .fail) (fun m x=>b (Nat.ble (Nat.succ i) m) (fr (zar m x i) fun c=>k (.int 4 c) h n) .fail) (fun _=>.fail) (fun _ m t=>b (Nat.ble (Nat.succ i) m) (k (oU (gc t (Nat.succ i))) h n) .fail) (fun _ _ _ _=>.fail) o) o
def th (k:Env→Md) (r:RR):RR:=@RR.rec (fun _=>RR) .fail k (fun id e h n=>.ext id e h n) (fun e h n=>.ret e h n) (fun _ _ _=>.fail) r
def wb (b:Bool) (v:AV):Bool:=@AV.rec (fun _=>Bool) false (fun _ _=>false) (fun c=>Lo.b b c (!c)) (fun _ _=>false) (fun _ _ _ _ _=>false) (fun _ _=>false) (fun _ _ _=>false) false false false false false (fun _=>false) (fun _ _ _=>false) (fun _ _=>false) (fun _ _=>false) false (fun _ _ _ _=>false) (fun _=>false) (fun _ _ _=>false) v
def cA (v:AV):AV:=@AV.rec (fun _=>AV) (.cons .undef .nl) (fun k u=>.cons (.int k u) .nl) (fun b=>.cons (.bool b) .nl) (fun b o=>.cons (.ptr b o) .nl) (fun b o l c x=>.cons (.sl b o l c x) .nl) (fun n x=>.cons (.str n x) .nl) (fun t v _=>.cons (.iface t v) .nl) (.cons .nilp .nl) (.cons .nils .nl) (.cons .nili .nl) (.cons .nilm .nl) (.cons .nilf .nl) (fun b=>.cons (.map b) .nl) (fun f c _=>.cons (.func f c) .nl) (fun l _=>l) (fun l _=>.cons (.tup l) .nl) (.cons .nl .nl) (fun a l _ _=>.cons (.cons a l) .nl) (fun b=>.cons (.yld b) .nl) (fun k m a=>.cons (.ukn k m a) .nl) v
def lC (v:AV):Nat:=@AV.rec (fun _=>Nat) 0 (fun _ _=>0) (fun _=>0) (fun _ _=>0) (fun _ _ _ _ _=>0) (fun _ _=>0) (fun _ _ _=>0) 0 0 0 0 0 (fun _=>0) (fun _ _ _=>0) (fun _ _=>0) (fun _ _=>0) 0 (fun _ _ _ j=>Nat.succ j) (fun _=>0) (fun _ _ _=>0) v
def okA (v:AV):Bool:=@AV.rec (fun _=>Bool) false (fun _ _=>true) (fun _=>true) (fun _ _=>true) (fun _ _ _ _ _=>true) (fun _ _=>true) (fun _ _ _=>true) true true true true true (fun _=>true) (fun _ _ _=>true) (fun _ _=>false) (fun _ _=>false) false (fun _ _ _ _=>false) (fun _=>false) (fun _ _ _=>true) v
def okL (v:AV):Bool:=@AV.rec (fun _=>Bool) false (fun _ _=>false) (fun _=>false) (fun _ _=>false) (fun _ _ _ _ _=>false) (fun _ _=>false) (fun _ _ _=>false) false false false false false (fun _=>false) (fun _ _ _=>false) (fun _ _=>false) (fun _ _=>false) true (fun a _ _ j=>Lo.b (okA a) j false) (fun _=>false) (fun _ _ _=>false) v
def oneA (v:Option AV) (f:Nat):Nat→T AV:=@Nat.rec (fun _=>Nat→T AV) (fun _=>.nil) (fun _ g k=>@Bool.rec (fun _=>T AV) (@Bool.rec (fun _=>T AV) (.node .nil none (g (Nat.div k 2))) (.node (g (Nat.div k 2)) none .nil) (Nat.beq (Nat.mod k 2) 0)) (.node .nil v .nil) (Nat.beq k 1)) f
def puA (v:Option AV) (t:T AV):Nat→T AV:=@T.rec AV (fun _=>Nat→T AV) (fun k=>oneA v 64 k) (fun l w r gl gr k=>@Bool.rec (fun _=>T AV) (@Bool.rec (fun _=>T AV) (.node l w (gr (Nat.div k 2))) (.node (gl (Nat.div k 2)) w r) (Nat.beq (Nat.mod k 2) 0)) (.node l v r) (Nat.beq k 1)) t
def liT (vs:AV):Nat→T AV→T AV:=@AV.rec (fun _=>Nat→T AV→T AV) (fun _ t=>t) (fun _ _ _ t=>t) (fun _ _ t=>t) (fun _ _ _ t=>t) (fun _ _ _ _ _ _ t=>t) (fun _ _ _ t=>t) (fun _ _ _ _ t=>t) (fun _ t=>t) (fun _ t=>t) (fun _ t=>t) (fun _ t=>t) (fun _ t=>t) (fun _ _ t=>t) (fun _ _ _ _ t=>t) (fun _ _ _ t=>t) (fun _ _ _ t=>t) (fun _ t=>t) (fun v _ _ j i t=>fr (Nat.succ i) fun i=>j i (puA (some v) t i)) (fun _ _ t=>t) (fun _ _ _ _ t=>t) vs
def wr (q i:Nat) (vs:AV) (o:Option AO) (h:H) (n:Nat) (k:K):RR:=b (Nat.ble KG q) (@Option.rec AO (fun _=>RR) .fail (fun o=>@AO.rec (fun _=>RR) (fun m es t=>b (Nat.ble (Nat.add i (lC vs)) m) (k .undef (setO h q (.cells m es (liT vs i t))) n) .fail) (fun m x=>wrO' q i vs (some (.bytes m x)) h n k) (fun _=>.fail) (fun ty m t=>b (Nat.ble (Nat.add i (lC vs)) m) (k .undef (setO h q (.var ty m (liT vs i t))) n) .fail) (fun _ _ _ _=>.fail) o) o) .fail
def al (o:AO) (h:H) (n:Nat) (f:H→Nat→RR):RR:=b (Nat.ble (Nat.succ n) 18446744073709551615) (b (fitO o) (fr (Nat.succ n) fun m=>f (setO h n o) m) .fail) .fail
def nC (i:Nat):AV→Option AV:=@Nat.rec (fun _=>AV→Option AV) (fun v=>@AV.rec (fun _=>Option AV) none (fun _ _=>none) (fun _=>none) (fun _ _=>none) (fun _ _ _ _ _=>none) (fun _ _=>none) (fun _ _ _=>none) none none none none none (fun _=>none) (fun _ _ _=>none) (fun _ _=>none) (fun _ _=>none) none (fun a _ _ _=>some a) (fun _=>none) (fun _ _ _=>none) v) (fun _ g v=>@AV.rec (fun _=>Option AV) none (fun _ _=>none) (fun _=>none) (fun _ _=>none) (fun _ _ _ _ _=>none) (fun _ _=>none) (fun _ _ _=>none) none none none none none (fun _=>none) (fun _ _ _=>none) (fun _ _=>none) (fun _ _=>none) none (fun _ l _ _=>g l) (fun _=>none) (fun _ _ _=>none) v) i
set_option maxRecDepth 4000
theorem z1f (i:Nat) (o:Option AO) (h:H) (n:Nat) (k:K):rd i o h n k=rdO i o h n k:=by
 cases o with
 | none=>rfl
 | some o=>cases o<;>rfl
theorem wb_eq (b:Bool) (v:AV):wb b v=ze7 b v:=by cases v<;>rfl
theorem cA_eq (v:AV):cA v=zav v:=by cases v<;>rfl
theorem zy5:∀ v:AV,lC v=lenC v:=by
 intro v
 induction v with
 | cons a l _ ih=>exact congrArg Nat.succ ih
 | _=>rfl
theorem okA_eq (v:AV):okA v=okC v:=by cases v<;>rfl
theorem zxt:∀ v:AV,okL v=okCs v:=by
 intro v
 induction v with
 | cons a l _ ih=>
  show b (okA a) (okL l) false=br (okC a) (okCs l) false
  rw [ih,okA_eq]; rfl
 | _=>rfl
theorem z1l (kd:Nat):hF kd=hiN kd:=by
 unfold hF
 cases hb:Nat.beq kd 3 with
 | true=>rw [zak hb]; rfl
 | false=>rfl
theorem zyp {β:Type} (x:Nat) (k:Nat→β):fr x k=k x:=by cases x<;>rfl
theorem zzj (v:Option AV) (f:Nat):oneA v f=T.one v f:=rfl
theorem puA_eq (v:Option AV) (t:T AV):puA v t=t.put v:=by
 unfold puA T.put
 simp only [zzj]
theorem zxr:∀ (v:AV) (i:Nat) (t:T AV),liT v i t=zd2 v i t:=by
 intro v
 induction v with
 | cons a l _ ih=>
  intro i t
  show fr (i + 1) (fun i=>liT l i (puA (some a) t i))=zd2 l (i + 1) (t.put (some a) (i + 1))
  rw [zyp,ih,puA_eq]
 | _=>intro i t; rfl
theorem wr_eq (q i:Nat) (vs:AV) (o:Option AO) (h:H) (n:Nat) (k:K):wr q i vs o h n k=wrO q i vs o h n k:=by
 unfold wr wrO
 cases o with
 | none=>rfl
 | some o=>cases o<;>first | rfl | (simp only [zy5,zxr]; rfl)
theorem al_eq (o:AO) (h:H) (n:Nat) (f:H→Nat→RR):al o h n f=alloc o h n f:=by
 unfold al alloc
 rw [zam,zyp]
 rfl
theorem nC_eq:∀ (i:Nat) (v:AV),nC i v=nthC i v:=by
 intro i
 induction i with
 | zero=>intro v; cases v<;>rfl
 | succ i ih=>intro v; cases v<;>first | rfl | exact ih _
theorem ei_eq (kd:Nat) (x y:AV) (k:K) (h:H) (n:Nat):(aI x fun i a=>aI y fun j c=>b (Nat.beq i kd) (b (Nat.beq j kd) (k (.bool (Nat.beq a c)) h n) .fail) .fail)=kB (eqI kd x y) h n k:=by
 cases x<;>first | (cases y<;>rfl; done) | skip
 rename_i i a
 cases y<;>first | rfl | skip
 rename_i j c
 show b (Nat.beq i kd) (b (Nat.beq j kd) _ _) _=kB (br (Nat.beq i kd) (br (Nat.beq j kd) (some (Nat.beq a c)) none) none) h n k
 cases Nat.beq i kd
 ·rfl
 ·cases Nat.beq j kd<;>rfl
theorem ni_eq (kd:Nat) (x y:AV) (k:K) (h:H) (n:Nat):(aI x fun i a=>aI y fun j c=>b (Nat.beq i kd) (b (Nat.beq j kd) (k (.bool (!Nat.beq a c)) h n) .fail) .fail)=kN (eqI kd x y) h n k:=by
 cases x<;>first | (cases y<;>rfl; done) | skip
 rename_i i a
 cases y<;>first | rfl | skip
 rename_i j c
 show b (Nat.beq i kd) (b (Nat.beq j kd) _ _) _=kN (br (Nat.beq i kd) (br (Nat.beq j kd) (some (Nat.beq a c)) none) none) h n k
 cases Nat.beq i kd
 ·rfl
 ·cases Nat.beq j kd<;>rfl
def lpN (x:Env→Md) (f:Nat):Env→Md:=@Nat.rec (fun _=>Env→Md) (fun _ _ _=>RR.fail) (fun _ go e h n=>th go (x e h n)) f
theorem lpN_eq (x:Env→Md) (f:Nat):lpN x f=zkh x f:=rfl
theorem zy6 (x:X):(fun L e h n=>lpN (x L) 1000000 e h n)=zxi x:=by
 funext L e h n
 unfold zxi
 rw [lpN_eq]
def s_sq (f:zbc→Env→Md) (x:X):X:=fun L e h n=>zgu (fun e h n=>x L e h n) (f L.call e h n)
def f_sq (f:zbc→Env→Md) (x:X):X:=fun L e h n=>th (fun e h n=>x L e h n) (f L.call e h n)
theorem e_sq:f_sq=s_sq:=rfl
def s_Q (x y:X):X:=xSeq x y
def f_Q (x y:X):X:=fun L e h n=>th (fun e h n=>y L e h n) (x L e h n)
theorem e_Q:f_Q=s_Q:=rfl
def s_cd (f:Env→AV) (x y:X):X:=fun L e h n=>asBool (f e) fun t=>br t (x L e h n) (y L e h n)
def f_cd (f:Env→AV) (x y:X):X:=fun L e h n=>aB (f e) fun t=>b t (x L e h n) (y L e h n)
theorem e_cd:f_cd=s_cd:=rfl
def s_Bk (id:Nat) (x:X):X:=zx7 id x
def f_Bk (id:Nat) (x:X):X:=fun L e h n=>@RR.rec (fun _=>RR) .fail (fun e h n=>.nrm e h n) (fun j e h n=>b (Nat.beq j id) (.nrm e h n) (.ext j e h n)) (fun e h n=>.ret e h n) (fun _ _ _=>.fail) (x L e h n)
theorem e_Bk:f_Bk=s_Bk:=rfl
def s_Lp (x:X):X:=zxi x
def f_Lp (x:X):X:=fun L e h n=>lpN (x L) 1000000 e h n
theorem e_Lp:f_Lp=s_Lp:=(by funext x; exact zy6 x)
def s_G (c:Bool) (v:AV) (o:K→Md):K→Md:=fun k h n=>z1i (ze7 c v) o k h n
def f_G (c:Bool) (v:AV) (o:K→Md):K→Md:=fun k h n=>b (wb c v) (o k h n) (k .undef h n)
theorem e_G:f_G=s_G:=(by funext c v o k h n; show b (wb c v) _ _=z1i (ze7 c v) o k h n; rw [wb_eq]; cases ze7 c v<;>rfl)
def s_ck (o:K→Md) (v:AV) (h:H) (n:Nat) (r:RR):RR:=o (fun v' _ _=>br (eqAV v v') r .fail) h n
def f_ck (o:K→Md) (v:AV) (h:H) (n:Nat) (r:RR):RR:=o (fun v' _ _=>b (eqAV v v') r .fail) h n
theorem e_ck:f_ck=s_ck:=rfl
def s_gk (c:Bool) (v:AV) (a:RR→RR) (r:RR):RR:=chkG (ze7 c v) a r
def f_gk (c:Bool) (v:AV) (a:RR→RR) (r:RR):RR:=b (wb c v) (a r) r
theorem e_gk:f_gk=s_gk:=(by funext c v a r; show b (wb c v) _ _=chkG (ze7 c v) a r; rw [wb_eq]; cases ze7 c v<;>rfl)
def s_gi (c:Bool) (v:AV) (r:RR):RR:=chkG (ze7 c v) (fun r=>r) r
def f_gi (_:Bool) (_:AV) (r:RR):RR:=r
theorem e_gi:f_gi=s_gi:=(by funext c v r; show r=chkG (ze7 c v) (fun r=>r) r; cases ze7 c v<;>rfl)
def s_mq (l:Sts) (n:Nat) (r:RR):RR:=br (zm7 l n) r .fail
def f_mq (l:Sts) (n:Nat) (r:RR):RR:=b (zm7 l n) r .fail
theorem e_mq:f_mq=s_mq:=rfl
def s_dB (o:K→Md):K→Md:=fun k h n=>zml (o finK h n) (fun v h n=>k v h n)
def f_dB (o:K→Md):K→Md:=fun k h n=>@RR.rec (fun _=>RR) .fail (fun _ _ _=>.fail) (fun _ _ _ _=>.fail) (fun _ _ _=>.fail) (fun v h n=>k v h n) (o finK h n)
theorem e_dB:f_dB=s_dB:=rfl
def s_fa (off:Nat) (v:AV):K→Md:=fun k=>zuq off v (fun v h n=>k v h n)
def f_fa (off:Nat) (v:AV):K→Md:=fun k h n=>aP v fun b o=>fr (Nat.add o off) fun o=>k (.ptr b o) h n
theorem e_fa:f_fa=s_fa:=rfl
def s_ld (v:AV):K→Md:=fun k=>zur v (fun v h n=>k v h n)
def f_ld (v:AV):K→Md:=fun k h n=>aP v fun b o=>rd o (getO h b) h n k
theorem e_ld:f_ld=s_ld:=(by funext v k h n; cases v<;>first | rfl | exact z1f _ _ _ _ _)
def s_ln (m:Nat) (v:AV):K→Md:=fun k=>zx1 m v (fun v h n=>k v h n)
def f_ln (m:Nat) (v:AV):K→Md:=fun k h n=>aP v fun b o=>rdNO o m (getO h b) h n k
theorem e_ln:f_ln=s_ln:=rfl
def s_so (m:Nat) (a x:AV):K→Md:=fun k=>zx2 m a x (fun v h n=>k v h n)
def f_so (m:Nat) (a x:AV):K→Md:=fun k h n=>aP a fun q o=>b (Nat.beq (lC (cA x)) m) (b (okL (cA x)) (wr q o (cA x) (getO h q) h n k) .fail) .fail
theorem e_so:f_so=s_so:=(by funext m a x k h n; unfold f_so; rw [cA_eq]; cases a<;>first | rfl | (show b _ (b _ (wr _ _ _ _ h n k) _) _=_; rw [wr_eq,zy5,zxt]; rfl))
def s_nk (v:AV):K→Md:=fun k h n=>zfl v h n (fun v h n=>k v h n)
def f_nk (v:AV):K→Md:=fun k h n=>@AV.rec (fun _=>RR) .fail (fun _ _=>.fail) (fun _=>.fail) (fun b o=>k (.ptr b o) h n) (fun _ _ _ _ _=>.fail) (fun _ _=>.fail) (fun t v _=>k (.iface t v) h n) .fail .fail .fail .fail .fail (fun _=>.fail) (fun f c _=>k (.func f c) h n) (fun _ _=>.fail) (fun _ _=>.fail) .fail (fun _ _ _ _=>.fail) (fun _=>.fail) (fun _ _ _=>.fail) v
theorem e_nk:f_nk=s_nk:=(by funext v k h n; cases v<;>rfl)
def s_fd (off:Nat) (v:AV):K→Md:=fun k h n=>zfl v h n fun v h n=>zuq off v (fun v h n=>zur v (fun v h n=>k v h n) h n) h n
def f_fd (off:Nat) (v:AV):K→Md:=fun k h n=>aP v fun b o=>fr (Nat.add o off) fun o=>rd o (getO h b) h n k
theorem e_fd:f_fd=s_fd:=(by funext off v k h n; cases v<;>first | rfl | (rename_i q o; show fr (o + off) (fun o=>rd o (getO h q) h n k)=frc (o + off) (fun o=>rdO o (getO h q) h n k); rw [zyp,zam]; exact z1f _ _ _ _ _))
def s_fl (off:Nat) (v:AV):K→Md:=fun k h n=>zuq off v (fun v h n=>zur v (fun v h n=>k v h n) h n) h n
def f_fl (off:Nat) (v:AV):K→Md:=fun k h n=>aP v fun b o=>fr (Nat.add o off) fun o=>rd o (getO h b) h n k
theorem e_fl:f_fl=s_fl:=(by funext off v k h n; cases v<;>first | rfl | (rename_i q o; show fr (o + off) (fun o=>rd o (getO h q) h n k)=frc (o + off) (fun o=>rdO o (getO h q) h n k); rw [zyp,zam]; exact z1f _ _ _ _ _))
def s_il (s:Nat) (x i:AV):K→Md:=fun k h n=>zx0 s x i (fun v h n=>zur v (fun v h n=>k v h n) h n) h n
def f_il (s:Nat) (x i:AV):K→Md:=fun k h n=>@AV.rec (fun _=>RR) .fail (fun _ _=>.fail) (fun _=>.fail) (fun _ _=>.fail) (fun q off len _ _=>aI i fun kd u=>b (Nat.ble (Nat.succ u) (hF kd)) (b (Nat.ble (Nat.succ u) len) (fr (Nat.add off (Nat.mul u s)) fun o=>rd o (getO h q) h n k) .fail) .fail) (fun _ _=>.fail) (fun _ _ _=>.fail) .fail .fail .fail .fail .fail (fun _=>.fail) (fun _ _ _=>.fail) (fun _ _=>.fail) (fun _ _=>.fail) .fail (fun _ _ _ _=>.fail) (fun _=>.fail) (fun _ _ _=>.fail) x
theorem e_il:f_il=s_il:=(by funext s x i k h n; cases x<;>first | rfl | (simp only [f_il,z1l,z1f]; rfl))
def s_ex (i:Nat) (v:AV):K→Md:=fun k h n=>extA v i h n (fun v h n=>k v h n)
def f_ex (i:Nat) (v:AV):K→Md:=fun k h n=>@AV.rec (fun _=>RR) .fail (fun _ _=>.fail) (fun _=>.fail) (fun _ _=>.fail) (fun _ _ _ _ _=>.fail) (fun _ _=>.fail) (fun _ _ _=>.fail) .fail .fail .fail .fail .fail (fun _=>.fail) (fun _ _ _=>.fail) (fun _ _=>.fail) (fun l _=>@Option.rec AV (fun _=>RR) .fail (fun v=>k v h n) (nC i l)) .fail (fun _ _ _ _=>.fail) (fun _=>.fail) (fun _ _ _=>.fail) v
theorem e_ex:f_ex=s_ex:=(by funext i v k h n; cases v<;>first | rfl | (rename_i l; show @Option.rec AV (fun _=>RR) RR.fail (fun v=>k v h n) (nC i l)=kO (nthC i l) h n k; rw [nC_eq]; cases nthC i l<;>rfl))
def s_pk (c x y:AV):K→Md:=fun k=>vPick c x y (fun v h n=>k v h n)
def f_pk (c x y:AV):K→Md:=fun k h n=>aB c fun t=>b t (k x h n) (k y h n)
theorem e_pk:f_pk=s_pk:=rfl
def s_nt (v:AV):K→Md:=fun k=>vNot v (fun v h n=>k v h n)
def f_nt (v:AV):K→Md:=fun k h n=>aB v fun b=>k (.bool (!b)) h n
theorem e_nt:f_nt=s_nt:=rfl
def s_en (v:AV):K→Md:=fun k h n=>kB (zin v) h n (fun v h n=>k v h n)
def f_en (v:AV):K→Md:=fun k h n=>@AV.rec (fun _=>RR) .fail (fun _ _=>.fail) (fun _=>.fail) (fun _ _=>.fail) (fun _ _ _ _ _=>.fail) (fun _ _=>.fail) (fun _ _ _=>k (.bool false) h n) .fail .fail (k (.bool true) h n) .fail .fail (fun _=>.fail) (fun _ _ _=>.fail) (fun _ _=>.fail) (fun _ _=>.fail) .fail (fun _ _ _ _=>.fail) (fun _=>.fail) (fun _ _ _=>.fail) v
theorem e_en:f_en=s_en:=(by funext v k h n; cases v<;>rfl)
def s_nn (v:AV):K→Md:=fun k h n=>kN (zin v) h n (fun v h n=>k v h n)
def f_nn (v:AV):K→Md:=fun k h n=>@AV.rec (fun _=>RR) .fail (fun _ _=>.fail) (fun _=>.fail) (fun _ _=>.fail) (fun _ _ _ _ _=>.fail) (fun _ _=>.fail) (fun _ _ _=>k (.bool true) h n) .fail .fail (k (.bool false) h n) .fail .fail (fun _=>.fail) (fun _ _ _=>.fail) (fun _ _=>.fail) (fun _ _=>.fail) .fail (fun _ _ _ _=>.fail) (fun _=>.fail) (fun _ _ _=>.fail) v
theorem e_nn:f_nn=s_nn:=(by funext v k h n; cases v<;>rfl)
def s_ls (v:AV):K→Md:=fun k h n=>zl0 v h n (fun v h n=>k v h n)
def f_ls (v:AV):K→Md:=fun k h n=>@AV.rec (fun _=>RR) .fail (fun _ _=>.fail) (fun _=>.fail) (fun _ _=>.fail) (fun _ _ _ _ _=>.fail) (fun m _=>b (Nat.ble (Nat.succ m) 9223372036854775808) (fr m fun m=>k (.int 3 m) h n) .fail) (fun _ _ _=>.fail) .fail .fail .fail .fail .fail (fun _=>.fail) (fun _ _ _=>.fail) (fun _ _=>.fail) (fun _ _=>.fail) .fail (fun _ _ _ _=>.fail) (fun _=>.fail) (fun _ _ _=>.fail) v
theorem e_ls:f_ls=s_ls:=(by funext v k h n; cases v<;>rfl)
def s_lz (v:AV):K→Md:=fun k h n=>zgc v h n (fun v h n=>k v h n)
def f_lz (v:AV):K→Md:=fun k h n=>@AV.rec (fun _=>RR) .fail (fun _ _=>.fail) (fun _=>.fail) (fun _ _=>.fail) (fun _ _ m _ _=>b (Nat.ble (Nat.succ m) 9223372036854775808) (fr m fun m=>k (.int 3 m) h n) .fail) (fun _ _=>.fail) (fun _ _ _=>.fail) .fail (k (.int 3 0) h n) .fail .fail .fail (fun _=>.fail) (fun _ _ _=>.fail) (fun _ _=>.fail) (fun _ _=>.fail) .fail (fun _ _ _ _=>.fail) (fun _=>.fail) (fun _ _ _=>.fail) v
theorem e_lz:f_lz=s_lz:=(by funext v k h n; cases v<;>rfl)
def s_ia (s:Nat) (x i:AV):K→Md:=fun k=>zx0 s x i (fun v h n=>k v h n)
def f_ia (s:Nat) (x i:AV):K→Md:=fun k h n=>@AV.rec (fun _=>RR) .fail (fun _ _=>.fail) (fun _=>.fail) (fun _ _=>.fail) (fun q off len _ _=>aI i fun kd u=>b (Nat.ble (Nat.succ u) (hF kd)) (b (Nat.ble (Nat.succ u) len) (fr (Nat.add off (Nat.mul u s)) fun o=>k (.ptr q o) h n) .fail) .fail) (fun _ _=>.fail) (fun _ _ _=>.fail) .fail .fail .fail .fail .fail (fun _=>.fail) (fun _ _ _=>.fail) (fun _ _=>.fail) (fun _ _=>.fail) .fail (fun _ _ _ _=>.fail) (fun _=>.fail) (fun _ _ _=>.fail) x
theorem e_ia:f_ia=s_ia:=(by funext s x i k h n; cases x<;>first | rfl | (simp only [f_ia,z1l]; rfl))
def s_ix (x i:AV):K→Md:=fun k h n=>zlx x i h n (fun v h n=>k v h n)
def f_ix (x i:AV):K→Md:=fun k h n=>@AV.rec (fun _=>RR) .fail (fun _ _=>.fail) (fun _=>.fail) (fun _ _=>.fail) (fun _ _ _ _ _=>.fail) (fun m y=>aI i fun kd u=>b (Nat.ble (Nat.succ u) (hF kd)) (b (Nat.ble (Nat.succ u) m) (fr (zar m y u) fun c=>k (.int 4 c) h n) .fail) .fail) (fun _ _ _=>.fail) .fail .fail .fail .fail .fail (fun _=>.fail) (fun _ _ _=>.fail) (fun _ _=>.fail) (fun _ _=>.fail) .fail (fun _ _ _ _=>.fail) (fun _=>.fail) (fun _ _ _=>.fail) x
theorem e_ix:f_ix=s_ix:=(by funext x i k h n; cases x<;>first | rfl | (simp only [f_ix,z1l]; rfl))
def s_ei (kd:Nat) (x y:AV):K→Md:=fun k h n=>kB (eqI kd x y) h n (fun v h n=>k v h n)
def f_ei (kd:Nat) (x y:AV):K→Md:=fun k h n=>aI x fun i a=>aI y fun j c=>b (Nat.beq i kd) (b (Nat.beq j kd) (k (.bool (Nat.beq a c)) h n) .fail) .fail
theorem e_ei:f_ei=s_ei:=(by funext kd x y k h n; exact ei_eq kd x y k h n)
def s_ni (kd:Nat) (x y:AV):K→Md:=fun k h n=>kN (eqI kd x y) h n (fun v h n=>k v h n)
def f_ni (kd:Nat) (x y:AV):K→Md:=fun k h n=>aI x fun i a=>aI y fun j c=>b (Nat.beq i kd) (b (Nat.beq j kd) (k (.bool (!Nat.beq a c)) h n) .fail) .fail
theorem e_ni:f_ni=s_ni:=(by funext kd x y k h n; exact ni_eq kd x y k h n)
def s_nw (o:AO):K→Md:=fun k=>vNew o (fun v h n=>k v h n)
def f_nw (o:AO):K→Md:=fun k h n=>al o h n fun h' m=>k (.ptr n 0) h' m
theorem e_nw:f_nw=s_nw:=(by funext o k h n; exact al_eq _ _ _ _)
def s_bx (x:AV):K→Md:=fun k=>vBox x (fun v h n=>k v h n)
def f_bx (x:AV):K→Md:=fun k h n=>b (okL (cA x)) (al (.cells (lC (cA x)) 0 (liT (cA x) 0 .nil)) h n fun h' m=>k (.ptr n 0) h' m) .fail
theorem e_bx:f_bx=s_bx:=(by funext x k h n; unfold f_bx; rw [cA_eq,zxt,zy5,zxr,al_eq]; rfl)
def s_tI (kd mo:Nat) (x:AV):K→Md:=fun k=>zx3 kd mo x (fun v h n=>k v h n)
def f_tI (kd mo:Nat) (x:AV):K→Md:=fun k h n=>aI x fun i a=>b (Nat.ble (Nat.succ a) (hiN i)) (fr (Nat.mod a mo) fun c=>k (.int kd c) h n) (fr (Nat.mod (Nat.add a (Nat.sub 18446744073709551616 (moN i))) mo) fun c=>k (.int kd c) h n)
theorem e_tI:f_tI=s_tI:=rfl
def s_ad (x y:AV):K→Md:=fun k=>vAdd 3 18446744073709551616 x y (fun v h n=>k v h n)
def f_ad (x y:AV):K→Md:=fun k h n=>a2 3 x y fun a c=>fr (Nat.mod (Nat.add a c) 18446744073709551616) fun c=>k (.int 3 c) h n
theorem e_ad:f_ad=s_ad:=rfl
def s_sb (x y:AV):K→Md:=fun k=>vSub 3 18446744073709551616 x y (fun v h n=>k v h n)
def f_sb (x y:AV):K→Md:=fun k h n=>a2 3 x y fun a c=>fr (Nat.mod (Nat.add a (Nat.sub 18446744073709551616 c)) 18446744073709551616) fun c=>k (.int 3 c) h n
theorem e_sb:f_sb=s_sb:=rfl
def s_mu (x y:AV):K→Md:=fun k=>vMul 3 18446744073709551616 x y (fun v h n=>k v h n)
def f_mu (x y:AV):K→Md:=fun k h n=>a2 3 x y fun a c=>fr (Nat.mod (Nat.mul a c) 18446744073709551616) fun c=>k (.int 3 c) h n
theorem e_mu:f_mu=s_mu:=rfl
def s_lt (x y:AV):K→Md:=fun k=>vLt 3 9223372036854775808 18446744073709551616 x y (fun v h n=>k v h n)
def f_lt (x y:AV):K→Md:=fun k h n=>a2 3 x y fun a c=>k (.bool (Nat.blt (Nat.mod (Nat.add a 9223372036854775808) 18446744073709551616) (Nat.mod (Nat.add c 9223372036854775808) 18446744073709551616))) h n
theorem e_lt:f_lt=s_lt:=rfl
def s_le (x y:AV):K→Md:=fun k=>vLe 3 9223372036854775808 18446744073709551616 x y (fun v h n=>k v h n)
def f_le (x y:AV):K→Md:=fun k h n=>a2 3 x y fun a c=>k (.bool (Nat.ble (Nat.mod (Nat.add a 9223372036854775808) 18446744073709551616) (Nat.mod (Nat.add c 9223372036854775808) 18446744073709551616))) h n
theorem e_le:f_le=s_le:=rfl
abbrev s_z0 (c:zbc) (e:Env) (o:Op'):K→Md:=fun k h n=>o c [] e h n (fun v h n=>k v h n)
def f_z0 (c:zbc) (e:Env) (o:Op'):K→Md:=fun k h n=>o c [] e h n k
theorem e_z0:f_z0=s_z0:=rfl
abbrev s_cl (c:zbc) (f:Nat) (l:List AV):K→Md:=fun k h n=>c f l h n (fun v h n=>k v h n)
def f_cl (c:zbc) (f:Nat) (l:List AV):K→Md:=fun k h n=>c f l h n k
theorem e_cl:f_cl=s_cl:=rfl
def s_eq (f:AV→AV→Option Bool) (x y:AV):K→Md:=fun k h n=>kB (f x y) h n (fun v h n=>k v h n)
def f_eq (f:AV→AV→Option Bool) (x y:AV):K→Md:=fun k h n=>kB (f x y) h n k
theorem e_eq:f_eq=s_eq:=rfl
def s_ne (f:AV→AV→Option Bool) (x y:AV):K→Md:=fun k h n=>kN (f x y) h n (fun v h n=>k v h n)
def f_ne (f:AV→AV→Option Bool) (x y:AV):K→Md:=fun k h n=>kN (f x y) h n k
theorem e_ne:f_ne=s_ne:=rfl
def s_ct (x y:AV):K→Md:=fun k=>vCat x y (fun v h n=>k v h n)
def f_ct (x y:AV):K→Md:=fun k=>vCat x y k
theorem e_ct:f_ct=s_ct:=rfl
class Pr where
 sq:(zbc→Env→Md)→X→X
 Q:X→X→X
 cd:(Env→AV)→X→X→X
 Bk:Nat→X→X
 Lp:X→X
 G:Bool→AV→(K→Md)→K→Md
 ck:(K→Md)→AV→H→Nat→RR→RR
 gk:Bool→AV→(RR→RR)→RR→RR
 gi:Bool→AV→RR→RR
 mq:Sts→Nat→RR→RR
 dB:(K→Md)→K→Md
 fa:Nat→AV→K→Md
 ld:AV→K→Md
 ln:Nat→AV→K→Md
 so:Nat→AV→AV→K→Md
 nk:AV→K→Md
 fd:Nat→AV→K→Md
 fl:Nat→AV→K→Md
 il:Nat→AV→AV→K→Md
 ex:Nat→AV→K→Md
 pk:AV→AV→AV→K→Md
 nt:AV→K→Md
 en:AV→K→Md
 nn:AV→K→Md
 ls:AV→K→Md
 lz:AV→K→Md
 ia:Nat→AV→AV→K→Md
 ix:AV→AV→K→Md
 ei:Nat→AV→AV→K→Md
 ni:Nat→AV→AV→K→Md
 nw:AO→K→Md
 bx:AV→K→Md
 tI:Nat→Nat→AV→K→Md
 ad:AV→AV→K→Md
 sb:AV→AV→K→Md
 mu:AV→AV→K→Md
 lt:AV→AV→K→Md
 le:AV→AV→K→Md
 z0:zbc→Env→Op'→K→Md
 cl:zbc→Nat→List AV→K→Md
 eq:(AV→AV→Option Bool)→AV→AV→K→Md
 ne:(AV→AV→Option Bool)→AV→AV→K→Md
 ct:AV→AV→K→Md
def PrD:Type:=Pr
def slow:PrD:=Pr.mk s_sq s_Q s_cd s_Bk s_Lp s_G s_ck s_gk s_gi s_mq s_dB s_fa s_ld s_ln s_so s_nk s_fd s_fl s_il s_ex s_pk s_nt s_en s_nn s_ls s_lz s_ia s_ix s_ei s_ni s_nw s_bx s_tI s_ad s_sb s_mu s_lt s_le s_z0 s_cl s_eq s_ne s_ct
def fast:PrD:=Pr.mk f_sq f_Q f_cd f_Bk f_Lp f_G f_ck f_gk f_gi f_mq f_dB f_fa f_ld f_ln f_so f_nk f_fd f_fl f_il f_ex f_pk f_nt f_en f_nn f_ls f_lz f_ia f_ix f_ei f_ni f_nw f_bx f_tI f_ad f_sb f_mu f_lt f_le f_z0 f_cl f_eq f_ne f_ct
theorem fast_eq:fast=slow:=by
 unfold fast slow
 rw [e_sq,e_Q,e_cd,e_Bk,e_Lp,e_G,e_ck,e_gk,e_gi,e_mq,e_dB,e_fa,e_ld,e_ln,e_so,e_nk,e_fd,e_fl,e_il,e_ex,e_pk,e_nt,e_en,e_nn,e_ls,e_lz,e_ia,e_ix,e_ei,e_ni,e_nw,e_bx,e_tI,e_ad,e_sb,e_mu,e_lt,e_le,e_z0,e_cl,e_eq,e_ne,e_ct]
theorem up {x:Option LF} {f:Pr→LF} (h:x=some (f slow)):x=some (f fast):=by rw [fast_eq]; exact h
abbrev cap (f:H→Nat→Md):Md:=fun h n=>f h n h n
abbrev on (f:zbc→Env→Md):X:=fun L e h n=>f L.call e h n
abbrev nr (e:Env):Md:=fun h n=>.nrm e h n
abbrev mv (v:AV) (k:K):Md:=k v
abbrev mi (t:Nat) (x:AV) (k:K):Md:=k (.iface t x)
abbrev y1 (p:AV→Env→Env) (e:Env) (x:AV):Md:=fun h n=>.nrm (p x e) h n
abbrev y3 (p q:AV→Env→Env) (e:Env) (x z:AV):Md:=fun h n=>.nrm (q z (p x e)) h n
def r0 (e:Ev):Lf:=@Ev.rec (fun _=>Lf) (fun l0 l1 l2 l3 l4 l5 l6 l7 l8 l9 l10 l11 l12 l13 l14 l15=>l0) e
def r1 (e:Ev):Lf:=@Ev.rec (fun _=>Lf) (fun l0 l1 l2 l3 l4 l5 l6 l7 l8 l9 l10 l11 l12 l13 l14 l15=>l1) e
def r2 (e:Ev):Lf:=@Ev.rec (fun _=>Lf) (fun l0 l1 l2 l3 l4 l5 l6 l7 l8 l9 l10 l11 l12 l13 l14 l15=>l2) e
def r3 (e:Ev):Lf:=@Ev.rec (fun _=>Lf) (fun l0 l1 l2 l3 l4 l5 l6 l7 l8 l9 l10 l11 l12 l13 l14 l15=>l3) e
def r4 (e:Ev):Lf:=@Ev.rec (fun _=>Lf) (fun l0 l1 l2 l3 l4 l5 l6 l7 l8 l9 l10 l11 l12 l13 l14 l15=>l4) e
def r5 (e:Ev):Lf:=@Ev.rec (fun _=>Lf) (fun l0 l1 l2 l3 l4 l5 l6 l7 l8 l9 l10 l11 l12 l13 l14 l15=>l5) e
def r6 (e:Ev):Lf:=@Ev.rec (fun _=>Lf) (fun l0 l1 l2 l3 l4 l5 l6 l7 l8 l9 l10 l11 l12 l13 l14 l15=>l6) e
def r7 (e:Ev):Lf:=@Ev.rec (fun _=>Lf) (fun l0 l1 l2 l3 l4 l5 l6 l7 l8 l9 l10 l11 l12 l13 l14 l15=>l7) e
def r8 (e:Ev):Lf:=@Ev.rec (fun _=>Lf) (fun l0 l1 l2 l3 l4 l5 l6 l7 l8 l9 l10 l11 l12 l13 l14 l15=>l8) e
def r9 (e:Ev):Lf:=@Ev.rec (fun _=>Lf) (fun l0 l1 l2 l3 l4 l5 l6 l7 l8 l9 l10 l11 l12 l13 l14 l15=>l9) e
def r10 (e:Ev):Lf:=@Ev.rec (fun _=>Lf) (fun l0 l1 l2 l3 l4 l5 l6 l7 l8 l9 l10 l11 l12 l13 l14 l15=>l10) e
def r11 (e:Ev):Lf:=@Ev.rec (fun _=>Lf) (fun l0 l1 l2 l3 l4 l5 l6 l7 l8 l9 l10 l11 l12 l13 l14 l15=>l11) e
def c0 (l:Lf):AV:=@Lf.rec (fun _=>AV) (fun v0 v1 v2 v3 v4 v5 v6 v7 v8 v9 v10 v11 v12 v13 v14 v15=>v0) l
def c1 (l:Lf):AV:=@Lf.rec (fun _=>AV) (fun v0 v1 v2 v3 v4 v5 v6 v7 v8 v9 v10 v11 v12 v13 v14 v15=>v1) l
def c2 (l:Lf):AV:=@Lf.rec (fun _=>AV) (fun v0 v1 v2 v3 v4 v5 v6 v7 v8 v9 v10 v11 v12 v13 v14 v15=>v2) l
def c3 (l:Lf):AV:=@Lf.rec (fun _=>AV) (fun v0 v1 v2 v3 v4 v5 v6 v7 v8 v9 v10 v11 v12 v13 v14 v15=>v3) l
def c4 (l:Lf):AV:=@Lf.rec (fun _=>AV) (fun v0 v1 v2 v3 v4 v5 v6 v7 v8 v9 v10 v11 v12 v13 v14 v15=>v4) l
def c5 (l:Lf):AV:=@Lf.rec (fun _=>AV) (fun v0 v1 v2 v3 v4 v5 v6 v7 v8 v9 v10 v11 v12 v13 v14 v15=>v5) l
def c6 (l:Lf):AV:=@Lf.rec (fun _=>AV) (fun v0 v1 v2 v3 v4 v5 v6 v7 v8 v9 v10 v11 v12 v13 v14 v15=>v6) l
def c7 (l:Lf):AV:=@Lf.rec (fun _=>AV) (fun v0 v1 v2 v3 v4 v5 v6 v7 v8 v9 v10 v11 v12 v13 v14 v15=>v7) l
def c8 (l:Lf):AV:=@Lf.rec (fun _=>AV) (fun v0 v1 v2 v3 v4 v5 v6 v7 v8 v9 v10 v11 v12 v13 v14 v15=>v8) l
def c9 (l:Lf):AV:=@Lf.rec (fun _=>AV) (fun v0 v1 v2 v3 v4 v5 v6 v7 v8 v9 v10 v11 v12 v13 v14 v15=>v9) l
def c10 (l:Lf):AV:=@Lf.rec (fun _=>AV) (fun v0 v1 v2 v3 v4 v5 v6 v7 v8 v9 v10 v11 v12 v13 v14 v15=>v10) l
def c11 (l:Lf):AV:=@Lf.rec (fun _=>AV) (fun v0 v1 v2 v3 v4 v5 v6 v7 v8 v9 v10 v11 v12 v13 v14 v15=>v11) l
def c12 (l:Lf):AV:=@Lf.rec (fun _=>AV) (fun v0 v1 v2 v3 v4 v5 v6 v7 v8 v9 v10 v11 v12 v13 v14 v15=>v12) l
def c13 (l:Lf):AV:=@Lf.rec (fun _=>AV) (fun v0 v1 v2 v3 v4 v5 v6 v7 v8 v9 v10 v11 v12 v13 v14 v15=>v13) l
def c14 (l:Lf):AV:=@Lf.rec (fun _=>AV) (fun v0 v1 v2 v3 v4 v5 v6 v7 v8 v9 v10 v11 v12 v13 v14 v15=>v14) l
def c15 (l:Lf):AV:=@Lf.rec (fun _=>AV) (fun v0 v1 v2 v3 v4 v5 v6 v7 v8 v9 v10 v11 v12 v13 v14 v15=>v15) l
def R0 (x:Lf→Lf) (e:Ev):Ev:=@Ev.rec (fun _=>Ev) (fun l0 l1 l2 l3 l4 l5 l6 l7 l8 l9 l10 l11 l12 l13 l14 l15=>Ev.mk (x l0) l1 l2 l3 l4 l5 l6 l7 l8 l9 l10 l11 l12 l13 l14 l15) e
def R1 (x:Lf→Lf) (e:Ev):Ev:=@Ev.rec (fun _=>Ev) (fun l0 l1 l2 l3 l4 l5 l6 l7 l8 l9 l10 l11 l12 l13 l14 l15=>Ev.mk l0 (x l1) l2 l3 l4 l5 l6 l7 l8 l9 l10 l11 l12 l13 l14 l15) e
def R2 (x:Lf→Lf) (e:Ev):Ev:=@Ev.rec (fun _=>Ev) (fun l0 l1 l2 l3 l4 l5 l6 l7 l8 l9 l10 l11 l12 l13 l14 l15=>Ev.mk l0 l1 (x l2) l3 l4 l5 l6 l7 l8 l9 l10 l11 l12 l13 l14 l15) e
def R3 (x:Lf→Lf) (e:Ev):Ev:=@Ev.rec (fun _=>Ev) (fun l0 l1 l2 l3 l4 l5 l6 l7 l8 l9 l10 l11 l12 l13 l14 l15=>Ev.mk l0 l1 l2 (x l3) l4 l5 l6 l7 l8 l9 l10 l11 l12 l13 l14 l15) e
def R4 (x:Lf→Lf) (e:Ev):Ev:=@Ev.rec (fun _=>Ev) (fun l0 l1 l2 l3 l4 l5 l6 l7 l8 l9 l10 l11 l12 l13 l14 l15=>Ev.mk l0 l1 l2 l3 (x l4) l5 l6 l7 l8 l9 l10 l11 l12 l13 l14 l15) e
def R5 (x:Lf→Lf) (e:Ev):Ev:=@Ev.rec (fun _=>Ev) (fun l0 l1 l2 l3 l4 l5 l6 l7 l8 l9 l10 l11 l12 l13 l14 l15=>Ev.mk l0 l1 l2 l3 l4 (x l5) l6 l7 l8 l9 l10 l11 l12 l13 l14 l15) e
def R6 (x:Lf→Lf) (e:Ev):Ev:=@Ev.rec (fun _=>Ev) (fun l0 l1 l2 l3 l4 l5 l6 l7 l8 l9 l10 l11 l12 l13 l14 l15=>Ev.mk l0 l1 l2 l3 l4 l5 (x l6) l7 l8 l9 l10 l11 l12 l13 l14 l15) e
def R7 (x:Lf→Lf) (e:Ev):Ev:=@Ev.rec (fun _=>Ev) (fun l0 l1 l2 l3 l4 l5 l6 l7 l8 l9 l10 l11 l12 l13 l14 l15=>Ev.mk l0 l1 l2 l3 l4 l5 l6 (x l7) l8 l9 l10 l11 l12 l13 l14 l15) e
def R8 (x:Lf→Lf) (e:Ev):Ev:=@Ev.rec (fun _=>Ev) (fun l0 l1 l2 l3 l4 l5 l6 l7 l8 l9 l10 l11 l12 l13 l14 l15=>Ev.mk l0 l1 l2 l3 l4 l5 l6 l7 (x l8) l9 l10 l11 l12 l13 l14 l15) e
def R9 (x:Lf→Lf) (e:Ev):Ev:=@Ev.rec (fun _=>Ev) (fun l0 l1 l2 l3 l4 l5 l6 l7 l8 l9 l10 l11 l12 l13 l14 l15=>Ev.mk l0 l1 l2 l3 l4 l5 l6 l7 l8 (x l9) l10 l11 l12 l13 l14 l15) e
def R10 (x:Lf→Lf) (e:Ev):Ev:=@Ev.rec (fun _=>Ev) (fun l0 l1 l2 l3 l4 l5 l6 l7 l8 l9 l10 l11 l12 l13 l14 l15=>Ev.mk l0 l1 l2 l3 l4 l5 l6 l7 l8 l9 (x l10) l11 l12 l13 l14 l15) e
def C0 (x:AV) (l:Lf):Lf:=@Lf.rec (fun _=>Lf) (fun v0 v1 v2 v3 v4 v5 v6 v7 v8 v9 v10 v11 v12 v13 v14 v15=>Lf.mk x v1 v2 v3 v4 v5 v6 v7 v8 v9 v10 v11 v12 v13 v14 v15) l
def C1 (x:AV) (l:Lf):Lf:=@Lf.rec (fun _=>Lf) (fun v0 v1 v2 v3 v4 v5 v6 v7 v8 v9 v10 v11 v12 v13 v14 v15=>Lf.mk v0 x v2 v3 v4 v5 v6 v7 v8 v9 v10 v11 v12 v13 v14 v15) l
def C2 (x:AV) (l:Lf):Lf:=@Lf.rec (fun _=>Lf) (fun v0 v1 v2 v3 v4 v5 v6 v7 v8 v9 v10 v11 v12 v13 v14 v15=>Lf.mk v0 v1 x v3 v4 v5 v6 v7 v8 v9 v10 v11 v12 v13 v14 v15) l
def C3 (x:AV) (l:Lf):Lf:=@Lf.rec (fun _=>Lf) (fun v0 v1 v2 v3 v4 v5 v6 v7 v8 v9 v10 v11 v12 v13 v14 v15=>Lf.mk v0 v1 v2 x v4 v5 v6 v7 v8 v9 v10 v11 v12 v13 v14 v15) l
def C4 (x:AV) (l:Lf):Lf:=@Lf.rec (fun _=>Lf) (fun v0 v1 v2 v3 v4 v5 v6 v7 v8 v9 v10 v11 v12 v13 v14 v15=>Lf.mk v0 v1 v2 v3 x v5 v6 v7 v8 v9 v10 v11 v12 v13 v14 v15) l
def C5 (x:AV) (l:Lf):Lf:=@Lf.rec (fun _=>Lf) (fun v0 v1 v2 v3 v4 v5 v6 v7 v8 v9 v10 v11 v12 v13 v14 v15=>Lf.mk v0 v1 v2 v3 v4 x v6 v7 v8 v9 v10 v11 v12 v13 v14 v15) l
def C6 (x:AV) (l:Lf):Lf:=@Lf.rec (fun _=>Lf) (fun v0 v1 v2 v3 v4 v5 v6 v7 v8 v9 v10 v11 v12 v13 v14 v15=>Lf.mk v0 v1 v2 v3 v4 v5 x v7 v8 v9 v10 v11 v12 v13 v14 v15) l
def C7 (x:AV) (l:Lf):Lf:=@Lf.rec (fun _=>Lf) (fun v0 v1 v2 v3 v4 v5 v6 v7 v8 v9 v10 v11 v12 v13 v14 v15=>Lf.mk v0 v1 v2 v3 v4 v5 v6 x v8 v9 v10 v11 v12 v13 v14 v15) l
def C8 (x:AV) (l:Lf):Lf:=@Lf.rec (fun _=>Lf) (fun v0 v1 v2 v3 v4 v5 v6 v7 v8 v9 v10 v11 v12 v13 v14 v15=>Lf.mk v0 v1 v2 v3 v4 v5 v6 v7 x v9 v10 v11 v12 v13 v14 v15) l
def C9 (x:AV) (l:Lf):Lf:=@Lf.rec (fun _=>Lf) (fun v0 v1 v2 v3 v4 v5 v6 v7 v8 v9 v10 v11 v12 v13 v14 v15=>Lf.mk v0 v1 v2 v3 v4 v5 v6 v7 v8 x v10 v11 v12 v13 v14 v15) l
def C10 (x:AV) (l:Lf):Lf:=@Lf.rec (fun _=>Lf) (fun v0 v1 v2 v3 v4 v5 v6 v7 v8 v9 v10 v11 v12 v13 v14 v15=>Lf.mk v0 v1 v2 v3 v4 v5 v6 v7 v8 v9 x v11 v12 v13 v14 v15) l
def C11 (x:AV) (l:Lf):Lf:=@Lf.rec (fun _=>Lf) (fun v0 v1 v2 v3 v4 v5 v6 v7 v8 v9 v10 v11 v12 v13 v14 v15=>Lf.mk v0 v1 v2 v3 v4 v5 v6 v7 v8 v9 v10 x v12 v13 v14 v15) l
def C12 (x:AV) (l:Lf):Lf:=@Lf.rec (fun _=>Lf) (fun v0 v1 v2 v3 v4 v5 v6 v7 v8 v9 v10 v11 v12 v13 v14 v15=>Lf.mk v0 v1 v2 v3 v4 v5 v6 v7 v8 v9 v10 v11 x v13 v14 v15) l
def C13 (x:AV) (l:Lf):Lf:=@Lf.rec (fun _=>Lf) (fun v0 v1 v2 v3 v4 v5 v6 v7 v8 v9 v10 v11 v12 v13 v14 v15=>Lf.mk v0 v1 v2 v3 v4 v5 v6 v7 v8 v9 v10 v11 v12 x v14 v15) l
def C14 (x:AV) (l:Lf):Lf:=@Lf.rec (fun _=>Lf) (fun v0 v1 v2 v3 v4 v5 v6 v7 v8 v9 v10 v11 v12 v13 v14 v15=>Lf.mk v0 v1 v2 v3 v4 v5 v6 v7 v8 v9 v10 v11 v12 v13 x v15) l
def C15 (x:AV) (l:Lf):Lf:=@Lf.rec (fun _=>Lf) (fun v0 v1 v2 v3 v4 v5 v6 v7 v8 v9 v10 v11 v12 v13 v14 v15=>Lf.mk v0 v1 v2 v3 v4 v5 v6 v7 v8 v9 v10 v11 v12 v13 v14 x) l
end Lo
end
end Go.VE
namespace Go.VE
noncomputable section
open Go
theorem Goes.shrink {ρ σ:Mp} {h h2 h':H} {n n2 n':Nat} {w v:World} (g:Goes ρ h n w σ h2 n2 v) (hs:∀ b o,getO h' b=some o→getO h2 b=some o) (hn:n2≤n') (ht:n'≤18446744073709551615):Goes ρ h n w σ h' n' v:=
 ⟨g.inv.prune hs hn ht,g.le,Nat.le_trans g.next hn,g.size,g.keep,fun r hr hl=>g.lives r hr (zh2 hs hl),g.io⟩
theorem CallLaw.shrink {P:Program} {f:Nat} {args:List AV} {h h2 h':H} {n n2 n':Nat} {v:AV} {k:K} {rr:RR} (hc:CallLaw P f args h n finK (.fin v h2 n2)) (hs:∀ b o,getO h' b=some o→getO h2 b=some o) (hn:n2≤n') (ht:n'≤18446744073709551615) (hr:k v h' n'=rr):CallLaw P f args h n k rr:=by
 have key:∀ (ρ:Mp) (w:World) (rv:Value) (w':World),Post ρ h n w finK (.fin v h2 n2) rv w'→Post ρ h n w k rr rv w':=by
  rintro ρ w rv w' ⟨v1,h1,n1,σ,e,g,r⟩
  have e':RR.fin v1 h1 n1=RR.fin v h2 n2:=e
  cases e'
  exact ⟨v,h',n',σ,hr,g.shrink hs hn ht,r⟩
 rcases hc with ⟨c1,c2⟩ | c2
 ·refine .inl ⟨c1,fun ρ w as hi ha=>(c2 ρ w as hi ha).mono fun e w' hp=>?_⟩
  obtain ⟨rv,e1,hp⟩:=hp
  exact ⟨rv,e1,key _ _ _ _ hp⟩
 ·refine .inr fun ρ w as hi ha=>?_
  obtain ⟨rv,w',e1,hp⟩:=c2 ρ w as hi ha
  exact ⟨rv,w',e1,key _ _ _ _ hp⟩
def noP:AV→Bool
 | .ptr _ _=>false | .sl _ _ _ _ _=>false | .map _=>false | .yld _=>false
 | .iface _ v=>noP v
 | .func _ c=>noP c
 | .agg l=>noP l
 | .tup l=>noP l
 | .cons a l=>br (noP a) (noP l) false
 | _=>true
mutual
theorem zj3 {ρ σ:Mp}:∀ (a:AV) (v:Value),noP a=true→rel σ a v→rel ρ a v
 | .undef,_=>fun _ hr=>by simpa only [rel] using hr
 | .int _ _,_=>fun _ hr=>by simpa only [rel] using hr
 | .bool _,_=>fun _ hr=>by simpa only [rel] using hr
 | .ptr _ _,_=>fun hn _=>by cases hn
 | .sl _ _ _ _ _,_=>fun hn _=>by cases hn
 | .str _ _,_=>fun _ hr=>by simpa only [rel] using hr
 | .iface _ a,_=>fun hn hr=>by
  simp only [rel] at hr ⊢
  obtain ⟨w,h1,h2⟩:=hr
  exact ⟨w,h1,zj3 a w hn h2⟩
 | .nilp,_=>fun _ hr=>by simpa only [rel] using hr
 | .nils,_=>fun _ hr=>by simpa only [rel] using hr
 | .nili,_=>fun _ hr=>by simpa only [rel] using hr
 | .nilm,_=>fun _ hr=>by simpa only [rel] using hr
 | .nilf,_=>fun _ hr=>by simpa only [rel] using hr
 | .map _,_=>fun hn _=>by cases hn
 | .func _ caps,_=>fun hn hr=>by
  simp only [rel] at hr ⊢
  obtain ⟨cs,h1,h2⟩:=hr
  exact ⟨cs,h1,zi8 caps _ hn h2⟩
 | .agg l,_=>fun hn hr=>by
  simp only [rel] at hr ⊢
  obtain ⟨cs,h1,h2,h3⟩:=hr
  exact ⟨cs,h1,zi8 l _ hn h2,h3⟩
 | .tup l,_=>fun hn hr=>by
  simp only [rel] at hr ⊢
  obtain ⟨cs,h1,h2⟩:=hr
  exact ⟨cs,h1,zi8 l _ hn h2⟩
 | .nl,_=>fun _ hr=>by simp only [rel] at hr
 | .cons _ _,_=>fun _ hr=>by simp only [rel] at hr
 | .yld _,_=>fun hn _=>by cases hn
 | .ukn _ _ _,_=>fun _ hr=>by simpa only [rel] using hr
theorem zi8 {ρ σ:Mp}:∀ (a:AV) (vs:List Value),noP a=true→relL σ a vs→relL ρ a vs
 | .nl,_=>fun _ hr=>by simpa only [relL] using hr
 | .cons a l,_=>fun hn hr=>by
  simp only [relL] at hr ⊢
  obtain ⟨v,r,h1,h2,h3⟩:=hr
  obtain ⟨g1,g2⟩:=brb (show br _ _ false=true from hn)
  exact ⟨v,r,h1,zj3 a v g1 h2,zi8 l r g2 h3⟩
 | .undef,_=>fun _ hr=>by simp only [relL] at hr
 | .int _ _,_=>fun _ hr=>by simp only [relL] at hr
 | .bool _,_=>fun _ hr=>by simp only [relL] at hr
 | .ptr _ _,_=>fun _ hr=>by simp only [relL] at hr
 | .sl _ _ _ _ _,_=>fun _ hr=>by simp only [relL] at hr
 | .str _ _,_=>fun _ hr=>by simp only [relL] at hr
 | .iface _ _,_=>fun _ hr=>by simp only [relL] at hr
 | .nilp,_=>fun _ hr=>by simp only [relL] at hr
 | .nils,_=>fun _ hr=>by simp only [relL] at hr
 | .nili,_=>fun _ hr=>by simp only [relL] at hr
 | .nilm,_=>fun _ hr=>by simp only [relL] at hr
 | .nilf,_=>fun _ hr=>by simp only [relL] at hr
 | .map _,_=>fun _ hr=>by simp only [relL] at hr
 | .func _ _,_=>fun _ hr=>by simp only [relL] at hr
 | .agg _,_=>fun _ hr=>by simp only [relL] at hr
 | .tup _,_=>fun _ hr=>by simp only [relL] at hr
 | .yld _,_=>fun _ hr=>by simp only [relL] at hr
 | .ukn _ _ _,_=>fun _ hr=>by simp only [relL] at hr
end
theorem CallLaw.pure {P:Program} {f:Nat} {args:List AV} {h h2:H} {n n0 n2:Nat} {v:AV} {k:K} {rr:RR} (hc:CallLaw P f args .nil n0 finK (.fin v h2 n2)) (hn:n≤n0) (ht:n0≤18446744073709551615) (hv:noP v=true) (hr:k v h n=rr):CallLaw P f args h n k rr:=by
 have nil_:∀ b o,getO (.nil:H) b=some o→False:=fun b o e=>by rw [z0w] at e; cases e
 have key:∀ (ρ:Mp) (w:World) (rv:Value) (w':World),Inv ρ h n w→Post ρ .nil n0 w finK (.fin v h2 n2) rv w'→Post ρ h n w k rr rv w':=by
  rintro ρ w rv w' hi ⟨v1,h1,n1,σ,e,g,r⟩
  have e':RR.fin v1 h1 n1=RR.fin v h2 n2:=e
  cases e'
  have kp:∀ r,r < w.heap.size→w'.heap[r]?=w.heap[r]?:=fun r hr=>g.keep r hr fun ⟨b,o,x,_,l2,_⟩=>nil_ b o l2
  refine ⟨v,h,n,ρ,hr,⟨⟨fun b o hb=>?_,hi.inj,hi.dom,fun b r x hb=>Nat.lt_of_lt_of_le (hi.rng b r x hb) g.size,hi.lim,hi.st⟩,Mp.le_refl _,Nat.le_refl _,g.size,fun r hr _=>kp r hr,fun r _ hl=>hl,g.io⟩,zj3 _ _ hv r⟩
  obtain ⟨r,base,h1,h2⟩:=hi.obj b o hb
  exact ⟨r,base,h1,by rw [kp r (hi.rng _ _ _ h1)]; exact h2⟩
 rcases hc with ⟨c1,c2⟩ | c2
 ·refine .inl ⟨c1,fun ρ w as hi ha=>(c2 ρ w as (hi.prune (fun b o e=>(nil_ b o e).elim) hn ht) ha).mono fun e w' hp=>?_⟩
  obtain ⟨rv,e1,hp⟩:=hp
  exact ⟨rv,e1,key _ _ _ _ hi hp⟩
 ·refine .inr fun ρ w as hi ha=>?_
  obtain ⟨rv,w',e1,hp⟩:=c2 ρ w as (hi.prune (fun b o e=>(nil_ b o e).elim) hn ht) ha
  exact ⟨rv,w',e1,key _ _ _ _ hi hp⟩
mutual
theorem zf6 {ρ σ:Mp} (hl:ρ.le σ):∀ (a:AV) (v0 v:Value),rel ρ a v0→rel σ a v→rel ρ a v
 | .undef,_,_=>fun _ hr=>by simpa only [rel] using hr
 | .int _ _,_,_=>fun _ hr=>by simpa only [rel] using hr
 | .bool _,_,_=>fun _ hr=>by simpa only [rel] using hr
 | .ptr _ _,_,_=>fun h0 hr=>by
  simp only [rel] at h0 hr ⊢
  obtain ⟨r,o,h1,_⟩:=h0
  obtain ⟨r',o',h2,h3⟩:=hr
  rw [hl.at_ _ _ h1] at h2; cases h2
  exact ⟨r,o,h1,h3⟩
 | .sl _ _ _ _ _,_,_=>fun h0 hr=>by
  simp only [rel] at h0 hr ⊢
  obtain ⟨r,o,_,_,h1,_⟩:=h0
  obtain ⟨r',o',f,c,h2,h3,h4,h5,h6,h7,h8⟩:=hr
  rw [hl.at_ _ _ h1] at h2; cases h2
  rw [hl.gs _ _ h1] at h8
  exact ⟨r,o,f,c,h1,h3,h4,h5,h6,h7,h8⟩
 | .str _ _,_,_=>fun _ hr=>by simpa only [rel] using hr
 | .iface _ a,_,_=>fun h0 hr=>by
  simp only [rel] at h0 hr ⊢
  obtain ⟨w0,_,g2⟩:=h0
  obtain ⟨w,h1,h2⟩:=hr
  exact ⟨w,h1,zf6 hl a w0 w g2 h2⟩
 | .nilp,_,_=>fun _ hr=>by simpa only [rel] using hr
 | .nils,_,_=>fun _ hr=>by simpa only [rel] using hr
 | .nili,_,_=>fun _ hr=>by simpa only [rel] using hr
 | .nilm,_,_=>fun _ hr=>by simpa only [rel] using hr
 | .nilf,_,_=>fun _ hr=>by simpa only [rel] using hr
 | .map _,_,_=>fun h0 hr=>by
  simp only [rel] at h0 hr ⊢
  obtain ⟨r,h1,_⟩:=h0
  obtain ⟨r',h2,h3⟩:=hr
  rw [hl.at_ _ _ h1] at h2; cases h2
  exact ⟨r,h1,h3⟩
 | .func _ caps,_,_=>fun h0 hr=>by
  simp only [rel] at h0 hr ⊢
  obtain ⟨c0,_,g2⟩:=h0
  obtain ⟨cs,h1,h2⟩:=hr
  exact ⟨cs,h1,zhl hl caps _ _ g2 h2⟩
 | .agg l,_,_=>fun h0 hr=>by
  simp only [rel] at h0 hr ⊢
  obtain ⟨c0,_,g2,_⟩:=h0
  obtain ⟨cs,h1,h2,h3⟩:=hr
  exact ⟨cs,h1,zhl hl l _ _ g2 h2,h3⟩
 | .tup l,_,_=>fun h0 hr=>by
  simp only [rel] at h0 hr ⊢
  obtain ⟨c0,_,g2⟩:=h0
  obtain ⟨cs,h1,h2⟩:=hr
  exact ⟨cs,h1,zhl hl l _ _ g2 h2⟩
 | .nl,_,_=>fun _ hr=>by simp only [rel] at hr
 | .cons _ _,_,_=>fun _ hr=>by simp only [rel] at hr
 | .yld _,_,_=>fun h0 hr=>by
  simp only [rel] at h0 hr ⊢
  obtain ⟨r,h1,_⟩:=h0
  obtain ⟨r',h2,h3⟩:=hr
  rw [hl.at_ _ _ h1] at h2; cases h2
  exact ⟨r,h1,h3⟩
 | .ukn _ _ _,_,_=>fun _ hr=>by simpa only [rel] using hr
theorem zhl {ρ σ:Mp} (hl:ρ.le σ):∀ (a:AV) (v0 vs:List Value),relL ρ a v0→relL σ a vs→relL ρ a vs
 | .nl,_,_=>fun _ hr=>by simpa only [relL] using hr
 | .cons a l,_,_=>fun h0 hr=>by
  simp only [relL] at h0 hr ⊢
  obtain ⟨v0,r0,_,g2,g3⟩:=h0
  obtain ⟨v,r,h1,h2,h3⟩:=hr
  exact ⟨v,r,h1,zf6 hl a _ _ g2 h2,zhl hl l _ _ g3 h3⟩
 | .undef,_,_=>fun _ hr=>by simp only [relL] at hr
 | .int _ _,_,_=>fun _ hr=>by simp only [relL] at hr
 | .bool _,_,_=>fun _ hr=>by simp only [relL] at hr
 | .ptr _ _,_,_=>fun _ hr=>by simp only [relL] at hr
 | .sl _ _ _ _ _,_,_=>fun _ hr=>by simp only [relL] at hr
 | .str _ _,_,_=>fun _ hr=>by simp only [relL] at hr
 | .iface _ _,_,_=>fun _ hr=>by simp only [relL] at hr
 | .nilp,_,_=>fun _ hr=>by simp only [relL] at hr
 | .nils,_,_=>fun _ hr=>by simp only [relL] at hr
 | .nili,_,_=>fun _ hr=>by simp only [relL] at hr
 | .nilm,_,_=>fun _ hr=>by simp only [relL] at hr
 | .nilf,_,_=>fun _ hr=>by simp only [relL] at hr
 | .map _,_,_=>fun _ hr=>by simp only [relL] at hr
 | .func _ _,_,_=>fun _ hr=>by simp only [relL] at hr
 | .agg _,_,_=>fun _ hr=>by simp only [relL] at hr
 | .tup _,_,_=>fun _ hr=>by simp only [relL] at hr
 | .yld _,_,_=>fun _ hr=>by simp only [relL] at hr
 | .ukn _ _ _,_,_=>fun _ hr=>by simp only [relL] at hr
end
theorem zt7 {ρ σ:Mp} (hl:ρ.le σ) {g:Nat × Nat} {o:AO} {x0 x:Option Obj} {base:Nat} (h0:relO ρ g o x0 base) (hr:relO σ g o x base):relO ρ g o x base:=by
 cases o with
 | cells n es t=>
  cases x0 with
  | none=>cases h0
  | some y0=>
  cases y0<;>first | (cases h0; done) | skip
  cases x with
  | none=>cases hr
  | some y=>
  cases y<;>first | (cases hr; done) | skip
  obtain ⟨_,_,h0⟩:=h0
  obtain ⟨hs,h1,hr⟩:=hr
  refine ⟨hs,h1,fun i hi=>?_⟩
  obtain ⟨v0,_,g2,_⟩:=h0 i hi
  obtain ⟨v,h2,h3,h4⟩:=hr i hi
  exact ⟨v,h2,zf6 hl _ _ _ g2 h3,h4⟩
 | bytes n y=>cases x with
  | none=>cases hr
  | some z=>cases z<;>first | (cases hr; done) | exact hr
 | map l=>
  cases x0 with
  | none=>cases h0
  | some y0=>
  cases y0<;>first | (cases h0; done) | skip
  cases x with
  | none=>cases hr
  | some y=>
  cases y<;>first | (cases hr; done) | skip
  obtain ⟨_,_,g1,g2⟩:=h0
  obtain ⟨hb,hst,h1,h2⟩:=hr
  refine ⟨hb,hst,h1,fun i hi hj=>?_⟩
  have q:=g2 i hi (by omega)
  exact ⟨zf6 hl _ _ _ q.1 (h2 i hi hj).1,zf6 hl _ _ _ q.2 (h2 i hi hj).2⟩
 | var ty n t=>
  cases x0 with
  | none=>cases h0
  | some y0=>
  cases y0<;>first | (cases h0; done) | skip
  cases x with
  | none=>cases hr
  | some y=>
  cases y<;>first | (cases hr; done) | skip
  obtain ⟨_,_,_,h0⟩:=h0
  obtain ⟨hs,hf,h1,hr⟩:=hr
  refine ⟨hs,hf,h1,fun i hi=>?_⟩
  obtain ⟨v0,_,g2,_⟩:=h0 i hi
  obtain ⟨v,h2,h3,h4⟩:=hr i hi
  exact ⟨v,h2,zf6 hl _ _ _ g2 h3,h4⟩
 | rowb ty m n y=>cases x with
  | none=>cases hr
  | some z=>cases z<;>first | (cases hr; done) | exact hr
end
end Go.VE
