/- The evaluator, part 7: definitions and their laws, over any program. No condition. -/
import Derived.Laws.BytesString
import Derived.Test.YtjpelmgihpmohaaGreatDoorVE6
set_option linter.all false
namespace Go.VE
noncomputable section
open Go
section
variable {P:Program} {ρ:Mp} {h:H} {n:Nat} {w:World} {k:K} {rr:RR}
def zim (ρ:Mp) (size m:Nat) (s:Seg) (c:Array Value):Prop:=
 c.size=m * size∧match s with
  | .vs q i t=>q=m * size∧∀ j,j < q→∃ u,c[j]?=some u∧rel ρ (zag t (i + j)) u∧okC (zag t (i + j))=true
  | .bs q x=>size=1∧q=m∧∃ l,zb6 l q x∧∀ j (hj:j < l.length),c[j]?=some (.int .u8 (l[j]'hj).toNat)
def zxk (P:Program) (ρ:Mp) (w:World) (size:Nat) (m:Nat) (v:Value) (s:Seg):Prop:=
 ∃ c:Array Value,(Builtin.firstCells size m v).run P w=.ok c w∧c.size=m * size∧
  match s with
  | .vs q i t=>q=m * size∧∀ j,j < q→∃ u,c[j]?=some u∧rel ρ (zag t (i + j)) u∧okC (zag t (i + j))=true
  | .bs q x=>size=1∧q=m∧∃ l,zb6 l q x∧∀ j (hj:j < l.length),c[j]?=some (.int .u8 (l[j]'hj).toNat)
theorem zwu (hi:Inv ρ h n w) {size m off b r base cap:Nat} {f len:Nat} {s:Seg} (hρ:ρ b=some (r,base)) (hf:f=base + off) (e:segO size m off (getO h b)=some s) (hm:m≠0):
  zxk P ρ w size m (.slice (some ⟨r,f,none⟩) len cap) s:=by
 cases ho:getO h b with
 | none=>rw [ho] at e; cases e
 | some o=>
  rw [ho] at e
  obtain ⟨r',base2,h1,h2⟩:=hi.obj b o ho
  rw [hρ] at h1; cases h1
  cases o with
  | map _=>cases e
  | var _ _ _=>cases e
  | rowb _ _ _ _=>cases e
  | cells q es t=>
   obtain ⟨h3,e1⟩:=za3 e
   rw [Nat.ble_eq] at h3
   cases e1
   obtain ⟨c,et,fz,g1,g2,g3⟩:=zbd h2
   have hsz:f + m * size≤c.size∨m * size=0:=by
    rcases Nat.eq_zero_or_pos (m * size) with e0 | e0
    ·right; exact e0
    ·left; have:=zfh (q:=fun _=>_) g3 e0 h3; omega
   rcases hsz with hsz | hsz
   ·refine ⟨c.extract f (f + m * size),?_,by simp; omega,rfl,fun j hj=>?_⟩
    ·simp only [Builtin.firstCells]
     exact zcv g1 hsz
    ·obtain ⟨v,g4,g5,g6,_⟩:=g3 (off + j) (by omega)
     refine ⟨v,?_,g5,g6⟩
     rw [Array.getElem?_extract,if_pos (by omega),← g4]
     congr 1; omega
   ·refine ⟨#[],?_,by simp [hsz],rfl,fun j hj=>by omega⟩
    simp only [Builtin.firstCells,hsz,loadCells,loadCellsFrom]
    rfl
  | bytes q x=>
   simp only [segO] at e
   obtain ⟨h3,e1⟩:=za3 e
   obtain ⟨h4,e2⟩:=za3 e1
   rw [Nat.beq_eq] at h3; rw [Nat.ble_eq] at h4
   cases e2
   subst h3
   obtain ⟨c,et,fz,l,g1,g2,g3,g4⟩:=zcg h2
   have hl:=g3.1
   have hsz:f + m≤c.size:=by
    obtain ⟨g5,_⟩:=g4 (off + m - 1) (by omega)
    have:=getElem?_lt g5; omega
   refine ⟨c.extract f (f + m),?_,by simp; omega,rfl,rfl,(l.take (off + m)).drop off,?_,fun j hj=>?_⟩
   ·simp only [Builtin.firstCells,Nat.mul_one]
    exact zcv g1 hsz
   ·have:=zdj g3 (a:=off) (b:=off + m) (by omega) h4
    rwa [show off + m - off=m by omega] at this
   ·have hj':j < m:=by simp at hj; omega
    obtain ⟨g5,_⟩:=g4 (off + j) (by omega)
    rw [Array.getElem?_extract,if_pos (by omega)]
    rw [show f + j=base + (off + j) by omega,g5]
    simp
theorem zdl (hi:Inv ρ h n w) {size m:Nat} {a:AV} {v:Value} {s:Seg} (hr:rel ρ a v) (e:zcz h size m a=some s) (hm:∀ b off len cap ex,a=.sl b off len cap ex→m≤len) (hs1:∀ q x,a=.str q x→size=1):zxk P ρ w size m v s:=by
 cases a with
 | nils=>
  obtain ⟨h1,e1⟩:=za3 e
  rw [Nat.beq_eq] at h1; subst h1; cases e1
  simp only [rel] at hr; subst hr
  exact ⟨#[],rfl,by simp,by simp,fun j hj=>by omega⟩
 | str q x=>
  obtain ⟨h1,e1⟩:=za3 e
  rw [Nat.ble_eq] at h1; cases e1
  have:=hs1 _ _ rfl; subst this
  simp only [rel] at hr
  obtain ⟨sb,rfl,hp⟩:=hr
  have hl:=hp.1
  have h2:=zdj hp (a:=0) (b:=m) (by omega) h1
  simp only [Nat.sub_zero,List.drop_zero] at h2
  refine ⟨(sb.extract 0 m).data.map fun b=>.int .u8 b.toNat,rfl,?_,rfl,rfl,_,h2,fun j hj=>?_⟩
  ·have:(sb.extract 0 m).data.toList.length=m:=by rw [Lib.extract_data,List.length_take,List.length_drop]; omega
   simp only [Array.size_map,Nat.mul_one]
   simpa using this
  ·have e3:(sb.extract 0 m).data.toList=sb.data.toList.take m:=by rw [Lib.extract_data]; simp
   rw [Array.getElem?_map,← Array.getElem?_toList,e3,List.getElem?_eq_getElem hj]
   rfl
 | sl b off len cap ex=>
  simp only [zcz] at e
  rw [zay] at e
  simp only [rel] at hr
  obtain ⟨r,o,f,c,h1,rfl,h2,h3,h4,h5,_⟩:=hr
  by_cases h0:Nat.beq m 0=true
  ·rw [if_pos h0] at e; cases e
   rw [Nat.beq_eq] at h0; subst h0
   refine ⟨#[],?_,by simp,by simp,fun j hj=>by omega⟩
   simp only [Builtin.firstCells,Nat.zero_mul,loadCells,loadCellsFrom]; rfl
  ·rw [if_neg h0] at e
   rw [Nat.beq_eq] at h0
   have:=hm _ _ _ _ _ rfl
   exact zwu hi h1 (by omega) e h0
 | _=>cases e
theorem ztd (hi:Inv ρ h n w) {b off r base size m:Nat} {s:Seg} {h':H} {c:Array Value} (hρ:ρ b=some (r,base)) (e:ze9 h b off s=some h') (hsg:zim ρ size m s c):
  c.size=0∧h'=h∨∃ w',(storeCells ⟨r,base + off,none⟩ c.toList).run P w=.ok () w'∧Goes ρ h n w ρ h' n w':=by
 obtain ⟨hc,hs⟩:=hsg
 cases s with
 | vs q i t=>
  obtain ⟨h1,h2⟩:=hs
  simp only [ze9] at e
  rw [zay] at e
  by_cases h0:Nat.beq q 0=true
  ·rw [if_pos h0] at e; cases e
   rw [Nat.beq_eq] at h0
   exact .inl ⟨by omega,rfl⟩
  ·rw [if_neg h0] at e
   obtain ⟨hkb,e⟩:=za3 e
   rw [Nat.ble_eq] at hkb
   rw [Nat.beq_eq] at h0
   right
   cases ho:getO h b with
   | none=>rw [ho] at e; cases e
   | some o=>
    rw [ho] at e
    cases o<;>try cases e
    rename_i mm es tt
    obtain ⟨h3,e1⟩:=za3 e
    rw [Nat.ble_eq] at h3
    cases e1
    obtain ⟨r',base2,h4,h5⟩:=hi.obj b _ ho
    rw [hρ] at h4; cases h4
    obtain ⟨c0,et,fz,g1,g2,g3⟩:=zbd h5
    have hsp:=zbl (by rw [← g1]; exact h5:relO ρ (ρ.g b) (.cells mm es tt) (some (.cells c0 et fz)) base)
    have hsz:=zfh (q:=fun _=>_) g3 (Nat.pos_of_ne_zero h0) h3
    have hlen:c.toList.length=q:=by simp; omega
    obtain ⟨w',r1,r2,r3,r4,r5⟩:=zbk (P:=P) c.toList (o:=base + off) (i:=0) g1 (by omega) (fun j hj1 hj2=>by
     obtain ⟨_,_,_,_,h6⟩:=g3 (j - base) (by omega)
     rwa [show base + (j - base)=j by omega] at h6) (fun v hv=>by
      obtain ⟨j,hj,rfl⟩:=List.mem_iff_getElem.1 hv
      obtain ⟨u,g4,g5,g6⟩:=h2 j (by omega)
      have:c.toList[j]=u:=by
       rw [← Array.getElem?_toList,List.getElem?_eq_getElem hj] at g4
       exact Option.some.inj g4
      rw [this]; exact ziw g6 g5)
    refine ⟨w',r1,hi.set ho hρ hkb ?_ r3 r4 r5⟩
    rw [r2]
    refine ⟨⟨fun he=>by rw [zau]; exact hsp.1 he,by rw [zau]; exact hsp.2⟩,g2,fun j hj=>?_⟩
    obtain ⟨v,g4,g5,g6,g7⟩:=g3 j hj
    rw [ziy q j (by unfold top; omega),zbq _ _ _ _ (by omega)]
    by_cases hin:off≤j∧j < off + q
    ·obtain ⟨u,k1,k2,k3⟩:=h2 (j - off) (by omega)
     refine ⟨u,?_,by rw [if_pos hin]; exact k2,by rw [if_pos hin]; exact k3,g7⟩
     rw [if_pos (by omega),Array.getElem?_toList,← k1]; congr 1; omega
    ·refine ⟨v,?_,by rw [if_neg hin]; exact g5,by rw [if_neg hin]; exact g6,g7⟩
     rw [if_neg (by omega)]; exact g4
 | bs q x=>
  obtain ⟨h1,h2,l,hp,hl⟩:=hs
  subst h1
  simp only [ze9] at e
  rw [zay] at e
  by_cases h0:Nat.beq q 0=true
  ·rw [if_pos h0] at e; cases e
   rw [Nat.beq_eq] at h0
   exact .inl ⟨by omega,rfl⟩
  ·rw [if_neg h0] at e
   obtain ⟨hkb,e⟩:=za3 e
   rw [Nat.ble_eq] at hkb
   rw [Nat.beq_eq] at h0
   right
   cases ho:getO h b with
   | none=>rw [ho] at e; cases e
   | some o=>
    rw [ho] at e
    cases o<;>try cases e
    rename_i mm y
    obtain ⟨h3,e1⟩:=za3 e
    rw [Nat.ble_eq] at h3
    cases e1
    obtain ⟨r',base2,h4,h5⟩:=hi.obj b _ ho
    rw [hρ] at h4; cases h4
    obtain ⟨c0,et,fz,lb,g1,g2,g3,g6⟩:=zcg h5
    have hsp:=zbl (by rw [← g1]; exact h5:relO ρ (ρ.g b) (.bytes mm y) (some (.cells c0 et fz)) base)
    have hlb:=g3.1
    have hll:=hp.1
    have hsz:base + off + q≤c0.size:=by
     obtain ⟨k1,_⟩:=g6 (off + q - 1) (by omega)
     have:=getElem?_lt k1; omega
    have hlen:c.toList.length=q:=by simp; omega
    obtain ⟨w',r1,r2,r3,r4,r5⟩:=zbk (P:=P) c.toList (o:=base + off) (i:=0) g1 (by omega) (fun j hj1 hj2=>by
     obtain ⟨_,h6⟩:=g6 (j - base) (by omega)
     rwa [show base + (j - base)=j by omega] at h6) (fun v hv=>by
      obtain ⟨j,hj,rfl⟩:=List.mem_iff_getElem.1 hv
      have g4:=hl j (by omega)
      have:c.toList[j]=.int .u8 ((l[j]'(by omega)).toNat:Int):=by
       rw [← Array.getElem?_toList,List.getElem?_eq_getElem hj] at g4
       exact Option.some.inj g4
      rw [this]; trivial)
    refine ⟨w',r1,hi.set ho hρ hkb ?_ r3 r4 r5⟩
    rw [r2]
    have hpl:=zhh g3 hp h3
    refine ⟨⟨by rw [zau]; exact hsp.1,by rw [zau]; exact hsp.2⟩,g2,_,hpl,fun j hj=>?_⟩
    have hj':j < mm:=by rw [hpl.1] at hj; exact hj
    obtain ⟨g9,g10⟩:=g6 j (by omega)
    refine ⟨?_,g10⟩
    rw [zbq _ _ _ _ (by omega)]
    have hL:(List.take off lb).length=off:=by simp; omega
    have hL2:(List.take off lb ++ l).length=off + q:=by simp; omega
    by_cases hin:off≤j∧j < off + q
    ·rw [if_pos (by omega),Array.getElem?_toList,show base + j - (base + off + 0)=j - off by omega,hl (j - off) (by omega)]
     congr 3
     rw [List.getElem_append_left (by omega),List.getElem_append_right (by omega)]
     simp only [hL]
    ·rw [if_neg (by omega),g9]
     congr 3
     by_cases hlt2:j < off
     ·rw [List.getElem_append_left (by omega),List.getElem_append_left (by omega),List.getElem_take]
     ·rw [List.getElem_append_right (by omega),List.getElem_drop]
      have hI:off + q + (j - (List.take off lb ++ l).length)=j:=by rw [hL2]; omega
      simp only [hI]
end
end
end Go.VE
namespace Go.VE
noncomputable section
open Go
section
variable {P:Program} {ρ:Mp} {h:H} {n:Nat} {w:World} {k:K} {rr:RR}
theorem zms (vs:List Value):∀ (c:Array Value) (off j0:Nat),(vs.zipIdx j0).foldl (fun (cs:Array Value) (x:Value × Nat)=>cs.setIfInBounds (off + x.2) x.1) c=zed c (off + j0) vs:=by
 induction vs with
 | nil=>intro c off j0; rfl
 | cons v vs ih=>
  intro c off j0
  simp only [List.zipIdx_cons,List.foldl_cons,zed]
  rw [ih]; rfl
theorem zls {place:Nat→Option (Nat × Nat)} {c:Array Value} {i off size:Nat} {v:Value} {rest:List (Nat × Value)} (hp:place i=some (off,size)) (hs:v.cells.size=size) (hb:off + size≤c.size):
  Instr.fill place c ((i,v) :: rest)=Instr.fill place (zed c off v.cells.toList) rest:=by
 simp only [Instr.fill,hp]
 have h1:(decide (v.cells.size≠size) || decide (off + v.cells.size > c.size))=false:=by simp; omega
 rw [if_neg (by simpa using h1)]
 congr 1
 have:=zms v.cells.toList c off 0
 simp only [Nat.add_zero] at this
 rw [← this,← Array.foldl_toList,Array.toList_zipIdx]
theorem zmb (vs:List Value) (c:Array Value) (off:Nat) (hb:off + vs.length≤c.size):(zed c off vs).toList=c.toList.take off ++ vs ++ c.toList.drop (off + vs.length):=by
 apply List.ext_getElem?
 intro j
 rw [Array.getElem?_toList,zbq _ _ _ _ hb]
 by_cases h1:j < off
 ·rw [if_neg (by omega),List.append_assoc,List.getElem?_append_left (by simp; omega),List.getElem?_take,if_pos h1,Array.getElem?_toList]
 ·by_cases h2:j < off + vs.length
  ·rw [if_pos (by omega),List.getElem?_append_left (by simp; omega),List.getElem?_append_right (by simp; omega)]
   congr 1; simp; omega
  ·rw [if_neg (by omega),List.getElem?_append_right (by simp; omega),List.getElem?_drop,Array.getElem?_toList]
   congr 1; simp; omega
theorem ztv {l vs:AV} {cs us:List Value} {off:Nat} (hl:relL ρ l cs) (hv:relL ρ vs us) (hb:off + us.length≤cs.length):relL ρ (zo4 l off vs) (cs.take off ++ us ++ cs.drop (off + us.length)):=by
 have hcl:=zal hl
 have hcv:=zal hv
 unfold zo4
 rw [zbz hcv hv,List.append_assoc]
 exact zql (zkr hcl off) (znp hcl off hl) (zql hcv hv (zno hcl _ hl))
theorem zwf {l vs:AV} {cs us:List Value} {off:Nat} (hl:relL ρ l cs) (hv:relL ρ vs us) (h1:okCs l=true) (h2:okCs vs=true):okCs (zo4 l off vs)=true:=by
 have hcl:=zal hl
 have hcv:=zal hv
 unfold zo4
 exact zqa (zkr hcl off) (zna hcl off h1) (zqa hcv h2 (zm9 hcl _ h1))
theorem zkp {ls:List AV} {e:Env} {f:Operand→Value} {place:Nat→Option (Nat × Nat)}:∀ (ps:List (Nat × Nat × Sx)) (os:List (Nat × Operand)) (l:AV) (c:Array Value) (r:AV),ps.length=os.length→
  (∀ j (hj:j < ps.length) (hk:j < os.length),place (os[j]'hk).1=some ((ps[j]'hj).1,(ps[j]'hj).2.1)∧rel ρ ((ps[j]'hj).2.2 ls e) (f (os[j]'hk).2))→
  relL ρ l c.toList→okCs l=true→zg0 ls e ps l=some r→∃ c',Instr.fill place c (os.map fun (i,x)=>(i,f x))=some c'∧relL ρ r c'.toList∧okCs r=true
 | [],[],l,c,r,_,_,hl,ho,e1=>by cases e1; exact ⟨c,rfl,hl,ho⟩
 | [],_ :: _,_,_,_,h,_,_,_,_=>by cases h
 | _ :: _,[],_,_,_,h,_,_,_,_=>by cases h
 | (off,size,s) :: ps,(i,x) :: os,l,c,r,h,hp,hl,ho,e1=>by
  obtain ⟨h0,h1⟩:=hp 0 (by simp) (by simp)
  simp only [List.getElem_cons_zero] at h0 h1
  simp only [zg0] at e1
  obtain ⟨g1,e2⟩:=za3 e1
  obtain ⟨g2,e3⟩:=za3 e2
  obtain ⟨g3,e4⟩:=za3 e3
  rw [Nat.beq_eq] at g1; rw [Nat.ble_eq] at g3
  have hv:=zet g2 h1
  have hlen:=zbz (zal hv) hv
  have hll:=zbz (zal hl) hl
  have hsz:(f x).cells.size=size:=by rw [← g1,hlen]; simp
  have hbd:off + size≤c.size:=by rw [hll] at g3; simpa using g3
  have hbd2:off + (f x).cells.toList.length≤c.size:=by simp; omega
  simp only [List.map_cons]
  rw [zls h0 hsz hbd]
  refine zkp ps os _ _ r (by simpa using h) (fun j hj hk=>?_) ?_ (zwf hl hv ho g2) e4
  ·have:=hp (j + 1) (by simp; omega) (by simp; omega)
   simpa using this
  ·rw [zmb _ _ _ hbd2]
   exact ztv hl hv (by simp; omega)
theorem znz {t:TypeId} {i:TypeInfo} {z:Value} {l:AV} {ls:List AV} {e:Env} {f:Operand→Value} {ps:List (Nat × Nat × Sx)} {os:Array (Nat × Operand)} {d:TypeDesc} {place:Nat→Option (Nat × Nat)}
  (hi:Inv ρ h n w) (hne:rr≠.fail) (hin:P.info? t=some i) (hz:i.zero=some z) (hl:relL ρ l z.cells.toList) (ho:okCs l=true) (hlen:ps.length=os.toList.length)
  (hp:∀ j (hj:j < ps.length) (hk:j < os.toList.length),place (os.toList[j]'hk).1=some ((ps[j]'hj).1,(ps[j]'hj).2.1)∧rel ρ ((ps[j]'hj).2.2 ls e) (f (os.toList[j]'hk).2))
  (hrun:∀ c,Instr.fill place z.cells (os.toList.map fun (i,x)=>(i,f x))=some c→(Instr.build t (os.map fun (i,x)=>(i,f x))).run P w=.ok (.agg c) w)
  (eq:kG (zg0 ls e ps l) h n k=rr):Val P (Instr.build t (os.map fun (i,x)=>(i,f x))) ρ h n w k rr:=by
 obtain ⟨r,h1,e1⟩:=kG_inv eq hne
 obtain ⟨c,h2,h3,h4⟩:=zkp ps os.toList l z.cells r hlen hp hl ho h1
 exact .same hi e1 (hrun c h2) (by simp only [rel]; exact ⟨c,rfl,h3,h4⟩)
theorem zmn {t:TypeId} {i:TypeInfo} {z:Value} {fs:Array Field} (hin:P.info? t=some i) (hz:i.zero=some z) (ht:P.underlying t=some (.struct fs)) {place:Nat→Option (Nat × Nat)} {parts:Array (Nat × Value)}
  {places:Array (Nat × Nat)} (hpl:(fs.mapM (fun (f:Field)=>(do pure (f.offset,← sizeOf f.type):Sem (Nat × Nat)))).run P w=.ok places w) (hpp:∀ i,places[i]?=place i) {c:Array Value} (hf:Instr.fill place z.cells parts.toList=some c):
  (Instr.build t parts).run P w=.ok (.agg c) w:=by
 have e1:(fun i=>places[i]?)=place:=funext hpp
 simp only [Instr.build,Sem.run_bind,zbj hin hz,Result.andThen_ok,zac ht,hpl,e1,hf,Sem.run_pure]
theorem zn7 {t et:TypeId} {i ei:TypeInfo} {z:Value} {m:Nat} (hin:P.info? t=some i) (hz:i.zero=some z) (ht:P.underlying t=some (.array m et)) (hei:P.info? et=some ei) {parts:Array (Nat × Value)}
  {c:Array Value} (hf:Instr.fill (fun i=>some (i * ei.size,ei.size)) z.cells parts.toList=some c):(Instr.build t parts).run P w=.ok (.agg c) w:=by
 simp only [Instr.build,Sem.run_bind,zbj hin hz,Result.andThen_ok,zac ht,zaw hei,hf,Sem.run_pure]
theorem zov {fs:Array Field} (hfs:∀ f ∈ fs,∃ i,P.info? f.type=some i):
  ∃ places,(fs.mapM (fun (f:Field)=>(do pure (f.offset,← sizeOf f.type):Sem (Nat × Nat)))).run P w=.ok places w∧∀ i:Nat,places[i]?=(fs[i]?).bind fun (f:Field)=>(P.info? f.type).map fun t=>(f.offset,t.size):=by
 obtain ⟨l⟩:=fs
 have key:∀ (l:List Field),(∀ f ∈ l,∃ i,P.info? f.type=some i)→∃ pl:List (Nat × Nat),(l.mapM (fun (f:Field)=>(do pure (f.offset,← sizeOf f.type):Sem (Nat × Nat)))).run P w=.ok pl w∧∀ i:Nat,pl[i]?=(l[i]?).bind fun (f:Field)=>(P.info? f.type).map fun t=>(f.offset,t.size):=by
  intro l
  induction l with
  | nil=>intro _; exact ⟨[],by simp,fun i=>by simp⟩
  | cons f l ih=>
   intro hl
   obtain ⟨i,hf⟩:=hl f (List.mem_cons_self ..)
   obtain ⟨pl,h1,h2⟩:=ih (fun g hg=>hl g (List.mem_cons_of_mem _ hg))
   refine ⟨(f.offset,i.size) :: pl,?_,fun j=>?_⟩
   ·rw [List.mapM_cons]
    simp only [Sem.run_bind,zaw hf,Result.andThen_ok,Sem.run_pure,h1]
   ·cases j with
    | zero=>simp [hf]
    | succ j=>simpa using h2 j
 obtain ⟨pl,h1,h2⟩:=key l (fun f hf=>hfs f (by simpa using hf))
 refine ⟨pl.toArray,?_,fun i=>by simpa using h2 i⟩
 rw [List.mapM_toArray]
 simp only [Sem.run_map,h1,Result.andThen_ok]
end
end
end Go.VE
namespace Go.VE
noncomputable section
open Go
section
variable {P:Program} {ρ:Mp} {h:H} {n:Nat} {w:World} {k:K} {rr:RR}
theorem zxn (hi:Inv ρ h n w) {b r o size:Nat} (hρ:ρ b=some (r,o)) (e:zgm size (getO h b)=true):(ρ.g b).1=size:=by
 cases ho:getO h b with
 | none=>rw [ho] at e; cases e
 | some ob=>
  rw [ho] at e
  obtain ⟨r',base,h1,h2⟩:=hi.obj b _ ho
  cases ob with
  | map _=>cases e
  | var _ _ _=>cases e
  | rowb ty q n' y=>
   obtain ⟨h2',c,fz,g1,_⟩:=zhm h2
   rw [g1] at h2'
   have h3:=(zbl h2').1
   simp only [zgm,Nat.beq_eq] at e
   first | (rw [h3,e]; done) | (rw [← e]; exact h3) | (subst e; exact h3)
  | cells m es t=>
   obtain ⟨c,et,fz,g1,_⟩:=zbd h2
   rw [g1] at h2
   have h3:=(zbl h2).1
   simp only [zgm,zay] at e
   by_cases h4:Nat.beq es size=true
   ·rw [if_pos h4] at e
    rw [Nat.beq_eq] at h4; rw [Nat.blt_eq] at e
    rw [h3 (by omega)]; exact h4
   ·rw [if_neg h4] at e; cases e
  | bytes m x=>
   obtain ⟨c,et,fz,l,g1,_⟩:=zcg h2
   rw [g1] at h2
   have h3:=(zbl h2).1
   simp only [zgm,Nat.beq_eq] at e
   rw [h3]; exact e.symm
section
variable (hi:Inv ρ h n w) (hne:rr≠.fail)
include hi hne
theorem zz6 {t et tt:TypeId} {ats:Array TypeId} {x:AV} {rx:Value} (hx:rel ρ x rx) (h0:ats[0]?=some t) (hd:P.underlying t=some (.slice et))
  (e:capA x h n k=rr):Val P (Builtin.cap_ ats tt #[rx]) ρ h n w k rr:=by
 cases x<;>try exact absurd e.symm hne
 case nils=>
  simp only [rel] at hx; subst hx
  exact .same hi e (by simp [Builtin.cap_,h0,zac hd]) (zcn hi hne (m:=0) (by omega))
 case sl b o l c ex=>
  obtain ⟨h1,e0⟩:=zab e hne
  subst h1
  obtain ⟨h1,e1⟩:=zeu hi hne e0
  simp only [rel] at hx
  obtain ⟨r,o',f,c',_,rfl,_,_,h2,_,_⟩:=hx
  have:=h2 trivial; subst this
  exact .same hi e1 (by simp [Builtin.cap_,h0,zac hd]) (zcn hi hne h1)
theorem z0b {kd:IntKind} {tt:TypeId} {ats:Array TypeId} {x y:AV} {rx ry:Value} (hx:rel ρ x rx) (hy:rel ρ y ry)
  (e:(int2 (zad kd) x y fun a b=>k (.int (zad kd) (br (Nat.blt ((b + upN' (zad kd)) % moN (zad kd)) ((a + upN' (zad kd)) % moN (zad kd))) b a)) h n)=rr):Val P (Builtin.min_ ats tt #[rx,ry]) ρ h n w k rr:=by
 obtain ⟨a,b,rfl,rfl,e'⟩:=zce e hne; replace e:=e'
 obtain ⟨p,rfl,rfl,hp⟩:=za6 hx
 obtain ⟨q,rfl,rfl,hq⟩:=za6 hy
 have hc:=zlr hq hp
 rw [zay] at e
 refine .same hi e (rv:=.int kd (if q < p then q else p)) (by simp [Builtin.min_,Builtin.min2]) ?_
 simp only [Nat.blt_eq]
 by_cases hqp:q < p
 ·rw [if_pos hqp,if_pos (hc.1 hqp)]; exact zek hq
 ·rw [if_neg hqp,if_neg (fun g=>hqp (hc.2 g))]; exact zek hp
theorem z0a {kd:IntKind} {tt:TypeId} {ats:Array TypeId} {x y:AV} {rx ry:Value} (hx:rel ρ x rx) (hy:rel ρ y ry)
  (e:(int2 (zad kd) x y fun a b=>k (.int (zad kd) (br (Nat.blt ((a + upN' (zad kd)) % moN (zad kd)) ((b + upN' (zad kd)) % moN (zad kd))) b a)) h n)=rr):Val P (Builtin.max_ ats tt #[rx,ry]) ρ h n w k rr:=by
 obtain ⟨a,b,rfl,rfl,e'⟩:=zce e hne; replace e:=e'
 obtain ⟨p,rfl,rfl,hp⟩:=za6 hx
 obtain ⟨q,rfl,rfl,hq⟩:=za6 hy
 have hc:=zlr hp hq
 rw [zay] at e
 refine .same hi e (rv:=.int kd (if q > p then q else p)) (by simp [Builtin.max_,Builtin.max2]) ?_
 simp only [Nat.blt_eq]
 by_cases hqp:p < q
 ·rw [if_pos hqp,if_pos (hc.1 hqp)]; exact zek hq
 ·rw [if_neg hqp,if_neg (fun g=>hqp (hc.2 g))]; exact zek hp
theorem ziv {v:AV} {rv:Value} {u:Nat} (hr:rel ρ v rv) (e:bndA v=some u):∃ j,rv=.int j u:=by
 cases v<;>try cases e
 simp only [bndA] at e
 obtain ⟨h1,h2⟩:=za3 e
 cases h2
 rw [Nat.blt_eq] at h1
 obtain ⟨j,_,rfl⟩:=zeg hi hne hr h1
 exact ⟨j,rfl⟩
end
theorem zbf {j:IntKind} {u y:Nat} {c:BoundsCode} (hu:u≤y):(Instr.sliceBound (.int j u) y c).run P w=.ok u w:=by
 have:(0:Int)≤(u:Int)∧(u:Int)≤(y:Int):=by omega
 simp only [Instr.sliceBound,Sem.run_bind,asIntOf,Sem.run_pure,Result.andThen_ok,this,and_self,if_true,Int.toNat_natCast]
def BndV (v:Option Value) (u d:Nat):Prop:=match v with | none=>u=d | some v=>∃ j,v=.int j u
def MxV (vm vh:Option Value) (m cap:Nat):Prop:=match vm with | none=>m=cap | some v=>(∃ j,v=.int j m)∧vh.isSome=true
theorem zcb {isS:Bool} {len cap l r m:Nat} {lo hi mx:Option Value} (h1:BndV lo l 0) (h2:BndV hi r len) (h3:MxV mx hi m cap) (hl:l≤r) (hr:r≤m) (hm:m≤cap):
  (Instr.sliceBounds isS len cap lo hi mx).run P w=.ok (l,r,m) w:=by
 unfold Instr.sliceBounds
 cases mx with
 | none=>
  simp only [MxV] at h3; subst h3
  cases hi with
  | none=>
   simp only [BndV] at h2; subst h2
   cases lo with
   | none=>simp only [BndV] at h1; subst h1; simp
   | some v=>obtain ⟨j,rfl⟩:=h1; simp [zbf hl]
  | some v=>
   obtain ⟨j,rfl⟩:=h2
   cases lo with
   | none=>simp only [BndV] at h1; subst h1; simp [zbf hr]
   | some v=>obtain ⟨j',rfl⟩:=h1; simp [zbf hr,zbf hl]
 | some v=>
  obtain ⟨⟨j,rfl⟩,h4⟩:=h3
  cases hi with
  | none=>cases h4
  | some v=>
   obtain ⟨j',rfl⟩:=h2
   cases lo with
   | none=>simp only [BndV] at h1; subst h1; simp [zbf hm,zbf hr]
   | some v=>obtain ⟨j'',rfl⟩:=h1; simp [zbf hm,zbf hr,zbf hl]
section
variable (hi:Inv ρ h n w) (hne:rr≠.fail)
include hi hne
theorem zef {s:Option Sx} {v:Option Value} {d u:Nat} {ls:List AV} {e:Env} (hs:match s,v with | none,none=>True | some s,some v=>rel ρ (s ls e) v | _,_=>False) (eq:bnd s d ls e=some u):BndV v u d:=by
 cases s with
 | none=>cases v with
  | none=>cases eq; rfl
  | some v=>exact hs.elim
 | some s=>cases v with
  | none=>exact hs.elim
  | some v=>
   obtain ⟨j,h1⟩:=ziv hi hne hs eq
   exact ⟨j,h1⟩
theorem zrw {t:TypeId} {x:AV} {rx:Value} {lo hi':Option Sx} {vl vh:Option Value} {ls:List AV} {e:Env} (hx:rel ρ x rx) (ht:P.underlying t=some .string)
  (hl:match lo,vl with | none,none=>True | some s,some v=>rel ρ (s ls e) v | _,_=>False) (hh:match hi',vh with | none,none=>True | some s,some v=>rel ρ (s ls e) v | _,_=>False)
  (eq:(match x with | .str m y=>cutS m y (bnd lo 0 ls e) (bnd hi' m ls e) h n k | _=>.fail)=rr):Val P (Instr.sliceAt t rx vl vh none) ρ h n w k rr:=by
 cases x<;>try exact absurd eq.symm hne
 rename_i m y
 simp only [rel] at hx
 obtain ⟨s,rfl,hp⟩:=hx
 simp only [cutS] at eq
 cases hbl:bnd lo 0 ls e with
 | none=>rw [hbl] at eq; exact absurd eq.symm hne
 | some l=>
  cases hbh:bnd hi' m ls e with
  | none=>rw [hbl,hbh] at eq; exact absurd eq.symm hne
  | some r=>
   rw [hbl,hbh] at eq
   obtain ⟨h1,e1⟩:=zab eq hne
   obtain ⟨h2,e2⟩:=zab e1 hne
   rw [Nat.ble_eq] at h1 h2
   rw [zam] at e2
   have hm:s.size=m:=by rw [Lib.size_eq,hp.1]
   have hb:=zcb (P:=P) (w:=w) (isS:=false) (len:=m) (cap:=m) (mx:=none) (zef hi hne hl hbl) (zef hi hne hh hbh) (show MxV none vh m m from rfl) h1 h2 (Nat.le_refl _)
   refine .same hi e2 (rv:=.string (s.extract l r)) ?_ ?_
   ·simp only [Instr.sliceAt,Sem.run_bind,zac ht,Result.andThen_ok,Instr.slice,Option.isSome_none,Bool.false_eq_true,if_false,hm,hb,Sem.run_pure]
   ·simp only [rel]
    refine ⟨_,rfl,?_⟩
    rw [Lib.extract_data]
    have:=zdj hp h1 h2
    rwa [List.drop_take] at this
theorem zo7 {size b off cap l r m:Nat} {ex:Bool} {rb o f c mr:Nat} (hρ:ρ b=some (rb,o)) (h1:l≤r) (h2:r≤m) (h3:m≤cap) (hc:cap≤c) (hf:f=o + off∨(ex=false∧cap=0∧c=0)) (hmr:m≤mr) (hmr2:ex=true→mr=m) (hmr3:mr≤c) (hsp:ex=false→mr=m∨(f + mr * size=(ρ.g b).2∧(ρ.g b).1=size)):
  rel ρ (.sl b (br ex (br (Nat.beq m l) off (off + l * size)) (off + l * size)) (r - l) (m - l) ex) (.slice (some (if mr=l then ⟨rb,f,none⟩ else Addr.add ⟨rb,f,none⟩ (l * size))) (r - l) (mr - l)):=by
 simp only [rel]
 have key:∃ f',(if mr=l then (⟨rb,f,none⟩:Addr) else Addr.add ⟨rb,f,none⟩ (l * size))=⟨rb,f',none⟩∧f'=if mr=l then f else f + l * size:=by
  by_cases hm:mr=l
  ·exact ⟨f,by simp [hm],by simp [hm]⟩
  ·exact ⟨f + l * size,by simp [hm,zcq],by simp [hm]⟩
 obtain ⟨f',g1,g2⟩:=key
 rw [g1]
 refine ⟨rb,o,f',mr - l,hρ,rfl,by omega,by omega,fun he=>by rw [hmr2 he],?_,fun he=>?_⟩
 rotate_left
 ·rcases hsp he with h5 | ⟨h5,h6⟩
  ·left; rw [h5]
  ·by_cases hm:mr=l
   ·left; omega
   ·right
    rw [g2,h6,← h5,if_neg hm,Nat.sub_mul]
    have:l * size≤mr * size:=Nat.mul_le_mul_right _ (by omega)
    omega
 cases ex with
 | true=>
  have:=hmr2 rfl; subst this
  simp only [zb2,zay,Nat.beq_eq]
  left
  rcases hf with hf | hf
  ·rw [g2]; by_cases hm:mr=l
   ·simp [hm,hf]
   ·simp [hm,hf]; omega
  ·cases hf.1
 | false=>
  simp only [zbe]
  by_cases hm:mr=l
  ·right; exact ⟨trivial,by omega,by omega⟩
  ·left
   rw [g2,if_neg hm]
   rcases hf with hf | hf
   ·omega
   ·omega
theorem zu5 {t et:TypeId} {ei:TypeInfo} {x:AV} {rx:Value} {lo hi' mx:Option Sx} {vl vh vm:Option Value} {ls:List AV} {e:Env} (hx:rel ρ x rx) (ht:P.underlying t=some (.slice et)) (hei:P.info? et=some ei)
  (hl:match lo,vl with | none,none=>True | some s,some v=>rel ρ (s ls e) v | _,_=>False) (hh:match hi',vh with | none,none=>True | some s,some v=>rel ρ (s ls e) v | _,_=>False)
  (hm:match mx,vm with | none,none=>True | some s,some v=>rel ρ (s ls e) v | _,_=>False) (hmh:vm.isSome=true→vh.isSome=true)
  (eq:(match x with
   | .nils=>(match mx with | none=>zjh (bnd lo 0 ls e) (bnd hi' 0 ls e) h n k | some m=>(match bndA (m ls e) with | some 0=>zjh (bnd lo 0 ls e) (bnd hi' 0 ls e) h n k | _=>.fail))
   | .sl b off len cap ex=>br (br ex true (zgm ei.size (getO h b))) (zkd ei.size b off cap (br mx.isSome (br ex true (Nat.blt 0 cap)) ex) (bnd lo 0 ls e) (bnd hi' len ls e) (bnd mx cap ls e) h n k) .fail
   | _=>.fail)=rr):Val P (Instr.sliceAt t rx vl vh vm) ρ h n w k rr:=by
 cases x<;>try exact absurd eq.symm hne
 case nils=>
  simp only [rel] at hx; subst hx
  have key:zjh (bnd lo 0 ls e) (bnd hi' 0 ls e) h n k=rr∧MxV vm vh 0 0:=by
   cases mx with
   | none=>cases vm with
    | none=>exact ⟨eq,rfl⟩
    | some _=>exact hm.elim
   | some s=>cases vm with
    | none=>exact hm.elim
    | some v=>
     simp only at eq
     split at eq
     ·rename_i hb
      obtain ⟨j,hj⟩:=ziv hi hne hm hb
      exact ⟨eq,⟨j,hj⟩,hmh rfl⟩
     ·exact absurd eq.symm hne
  obtain ⟨e1,h3⟩:=key
  simp only [zjh] at e1
  cases hbl:bnd lo 0 ls e with
  | none=>rw [hbl] at e1; exact absurd e1.symm hne
  | some l=>
   cases hbh:bnd hi' 0 ls e with
   | none=>rw [hbl,hbh] at e1; exact absurd e1.symm hne
   | some r=>
    rw [hbl,hbh] at e1
    obtain ⟨h1,e2⟩:=zab e1 hne
    obtain ⟨h2,e3⟩:=zab e2 hne
    rw [Nat.beq_eq] at h1 h2
    subst h1; subst h2
    have hb:=zcb (P:=P) (w:=w) (isS:=true) (len:=0) (cap:=0) (m:=0) (mx:=vm) (zef hi hne hl hbl) (zef hi hne hh hbh) h3 (Nat.le_refl _) (Nat.le_refl _) (Nat.le_refl _)
    refine .same hi e3 (rv:=.slice none 0 0) ?_ (by simp only [rel])
    simp only [Instr.sliceAt,Sem.run_bind,zac ht,Result.andThen_ok,Instr.slice,hb,zaw hei,if_true,Sem.run_pure]
 case sl b off len cap ex=>
  simp only [rel] at hx
  obtain ⟨rb,o,f,c,hρ,rfl,h1,h2,h3,h4,h9⟩:=hx
  obtain ⟨hgrow,eq'⟩:=zab eq hne
  replace eq:=eq'
  simp only [zkd] at eq
  cases hbl:bnd lo 0 ls e with
  | none=>rw [hbl] at eq; exact absurd eq.symm hne
  | some l=>
   cases hbh:bnd hi' len ls e with
   | none=>rw [hbl,hbh] at eq; exact absurd eq.symm hne
   | some r=>
    cases hbm:bnd mx cap ls e with
    | none=>rw [hbl,hbh,hbm] at eq; exact absurd eq.symm hne
    | some m=>
     rw [hbl,hbh,hbm] at eq
     obtain ⟨g1,e1⟩:=zab eq hne
     obtain ⟨g2,e2⟩:=zab e1 hne
     obtain ⟨g3,e3⟩:=zab e2 hne
     rw [Nat.ble_eq] at g1 g2 g3
     cases mx with
     | none=>cases vm with
      | some _=>exact hm.elim
      | none=>
       simp only [bnd] at hbm; cases hbm
       have hb:=zcb (P:=P) (w:=w) (isS:=true) (len:=len) (cap:=c) (m:=c) (mx:=none) (zef hi hne hl hbl) (zef hi hne hh hbh) (show MxV none vh c c from rfl) g1 (by omega) (Nat.le_refl _)
       refine .same hi e3 (rv:=.slice (some (if c=l then ⟨rb,f,none⟩ else Addr.add ⟨rb,f,none⟩ (l * ei.size))) (r - l) (c - l)) ?_ (zo7 hi hne hρ g1 g2 g3 h2 h4 (by omega) (fun he=>h3 he) (Nat.le_refl _) ?_)
       rotate_left
       ·intro he
        subst he
        rcases h9 rfl with h10 | h10
        ·left; exact h10
        ·right
         simp only [zbe] at hgrow
         have h11:=zxn hi hρ hgrow
         rw [h11] at h10; exact ⟨h10,h11⟩
       ·simp only [Instr.sliceAt,Sem.run_bind,zac ht,Result.andThen_ok,Instr.slice,hb,zaw hei,Sem.run_pure,Option.map_some]
        by_cases hc:c=l<;>simp [hc]
     | some s=>cases vm with
      | none=>exact hm.elim
      | some v=>
       obtain ⟨j,hj⟩:=ziv hi hne hm hbm
       have hb:=zcb (P:=P) (w:=w) (isS:=true) (len:=len) (cap:=c) (m:=m) (mx:=some v) (zef hi hne hl hbl) (zef hi hne hh hbh) ⟨⟨j,hj⟩,hmh rfl⟩ g1 g2 (by omega)
       simp only [Option.isSome_some,zb2] at e3
       have hrun:(Instr.sliceAt t (.slice (some ⟨rb,f,none⟩) len c) vl vh (some v)).run P w=.ok (.slice (some (if m=l then ⟨rb,f,none⟩ else Addr.add ⟨rb,f,none⟩ (l * ei.size))) (r - l) (m - l)) w:=by
        simp only [Instr.sliceAt,Sem.run_bind,zac ht,Result.andThen_ok,Instr.slice,hb,zaw hei,Sem.run_pure,Option.map_some]
        by_cases hc:m=l<;>simp [hc]
       refine .same hi e3 hrun (zo7 hi hne hρ g1 g2 g3 h2 ?_ (Nat.le_refl _) (fun _=>rfl) (by omega) (fun _=>.inl rfl))
       rcases h4 with h4 | ⟨h5,h6,h7⟩
       ·exact .inl h4
       ·right; subst h5; subst h6; exact ⟨rfl,rfl,h7⟩
theorem zlc {t et:TypeId} {m0:Nat} {ei:TypeInfo} {x:AV} {rx:Value} {lo hi' mx:Option Sx} {vl vh vm:Option Value} {ls:List AV} {e:Env} (hx:rel ρ x rx)
  (ht:P.underlying t=some (.array m0 et)∨∃ a,P.underlying t=some (.pointer a)∧P.underlying a=some (.array m0 et)) (hei:P.info? et=some ei)
  (hl:match lo,vl with | none,none=>True | some s,some v=>rel ρ (s ls e) v | _,_=>False) (hh:match hi',vh with | none,none=>True | some s,some v=>rel ρ (s ls e) v | _,_=>False)
  (hm:match mx,vm with | none,none=>True | some s,some v=>rel ρ (s ls e) v | _,_=>False) (hmh:vm.isSome=true→vh.isSome=true)
  (eq:(zbx x fun b off=>zkd ei.size b off m0 true (bnd lo 0 ls e) (bnd hi' m0 ls e) (bnd mx m0 ls e) h n k)=rr):Val P (Instr.sliceAt t rx vl vh vm) ρ h n w k rr:=by
 obtain ⟨b,off,rfl,eq'⟩:=zbu eq hne
 obtain ⟨rb,o,hρ,rfl⟩:=zca hx
 simp only [zkd] at eq'
 cases hbl:bnd lo 0 ls e with
 | none=>rw [hbl] at eq'; exact absurd eq'.symm hne
 | some l=>
  cases hbh:bnd hi' m0 ls e with
  | none=>rw [hbl,hbh] at eq'; exact absurd eq'.symm hne
  | some r=>
   cases hbm:bnd mx m0 ls e with
   | none=>rw [hbl,hbh,hbm] at eq'; exact absurd eq'.symm hne
   | some m=>
    rw [hbl,hbh,hbm] at eq'
    obtain ⟨g1,e1⟩:=zab eq' hne
    obtain ⟨g2,e2⟩:=zab e1 hne
    obtain ⟨g3,e3⟩:=zab e2 hne
    rw [Nat.ble_eq] at g1 g2 g3
    have h3:MxV vm vh m m0:=by
     cases mx with
     | none=>cases vm with
      | some _=>exact hm.elim
      | none=>simp only [bnd] at hbm; cases hbm; exact rfl
     | some s=>cases vm with
      | none=>exact hm.elim
      | some v=>exact ⟨ziv hi hne hm hbm,hmh rfl⟩
    have hb:=zcb (P:=P) (w:=w) (isS:=false) (len:=m0) (cap:=m0) (m:=m) (mx:=vm) (zef hi hne hl hbl) (zef hi hne hh hbh) h3 g1 g2 g3
    refine .same hi e3 (rv:=.slice (some (if m=l then ⟨rb,o + off,none⟩ else Addr.add ⟨rb,o + off,none⟩ (l * ei.size))) (r - l) (m - l)) ?_ (zo7 hi hne (ex:=true) hρ g1 g2 g3 (Nat.le_refl _) (.inl rfl) (Nat.le_refl _) (fun _=>rfl) (by omega) (fun _=>.inl rfl))
    rcases ht with ht | ⟨a,ht,ha⟩
    ·simp only [Instr.sliceAt,Sem.run_bind,zac ht,Result.andThen_ok,Instr.sureAddr,hb,zaw hei,Sem.run_pure]
    ·simp only [Instr.sliceAt,Sem.run_bind,zac ht,Result.andThen_ok,Instr.slice,asAddr,zac ha,hb,zaw hei,Sem.run_pure]
end
end
end
end Go.VE
