/- The evaluator, part 9: definitions and their laws, over any program. No condition. -/
import Derived.Lib.UnsafeStr
import Derived.Test.YtjpelmgihpmohaaGreatDoorVE8
set_option linter.all false
namespace Go.VE
noncomputable section
open Go
section
variable {P:Program} {ρ:Mp} {h:H} {n:Nat} {w:World} {k:K} {rr:RR}
section
variable {st xt et tt:TypeId} {ei:TypeInfo}
def rdC (P:Program) (size a:Nat) (rv:Value):World→Array Value→Prop:=fun w' c=>(Builtin.firstCells size a rv).run P w'=.ok c w'
structure SrcN (P:Program) (ρ:Mp) (w:World) (size:Nat) (rv:Value) (a:Nat) (s:Seg):Prop where
 len:(Builtin.lenOf rv).run P w=.ok a w
 src:Src ρ w size (rdC P size a rv) a s
theorem zw0 (size:Nat):SrcN P ρ w size (.slice none 0 0) 0 (.vs 0 0 .nil):=
 ⟨rfl,⟨fun w' _=>⟨#[],rfl,zpb⟩⟩⟩
theorem zuk (hi:Inv ρ h n w) {m z:Nat} {v:Value} (hr:rel ρ (.str m z) v):SrcN P ρ w 1 v m (.bs m z):=by
 have hr0:=hr
 simp only [rel] at hr
 obtain ⟨s,rfl,hp⟩:=hr
 have e1:zcz h 1 m (.str m z)=some (.bs m z):=by
  have hlt:=zhg s.data.toList
  rw [hp.1,hp.2] at hlt
  simp only [zcz,zay,Nat.ble_eq,Nat.le_refl,if_true,zg3,Nat.sub_self,Nat.mul_zero,Nat.shiftRight_zero,Nat.sub_zero,zqi]
  rw [Nat.mod_eq_of_lt hlt]
 refine ⟨?_,⟨fun w' hw'=>?_⟩⟩
 ·simp only [Builtin.lenOf,Sem.run_pure]; rw [Lib.size_eq,hp.1]
 ·exact zdl (P:=P) (hi.heap hw') hr0 e1 (fun _ _ _ _ _ e=>by cases e) (fun _ _ _=>rfl)
theorem src_sl (hi:Inv ρ h n w) {size b off len cap:Nat} {ex:Bool} {v:Value} {s:Seg} (hr:rel ρ (.sl b off len cap ex) v) (e:zcz h size len (.sl b off len cap ex)=some s):SrcN P ρ w size v len s:=by
 refine ⟨?_,⟨fun w' hw'=>?_⟩⟩
 ·simp only [rel] at hr
  obtain ⟨r,o,f,c,_,rfl,_⟩:=hr
  rfl
 ·exact zdl (P:=P) (hi.heap hw') hr e (fun _ _ _ _ _ e=>by cases e; exact Nat.le_refl _) (fun _ _ e=>by cases e)
theorem zx4 (hA:AppN P st xt et ei) {z ry:Value} {a:Nat} (hz:ei.zero=some z) (hlen:(Builtin.lenOf ry).run P w=.ok a w) (hc:∃ c,(Builtin.firstCells ei.size a ry).run P w=.ok c w):
  Way P w et ei.size ei.bytes z (fun s=>Builtin.append_ #[st,xt] tt #[s,ry]) (rdC P ei.size a ry) a:=by
 refine ⟨fun h0=>?_,fun b len cap c w' h1 h2 h3=>?_,fun base len cap c1 c2 h1 h2 h3 h4 h5=>?_⟩
 ·subst h0
  obtain ⟨c,hc⟩:=hc
  exact append_nil hA hlen hc
 ·exact zr2 hA hlen h1 h2 h3
 ·exact zqz hA hlen h1 h2 h3 hz h4 h5
theorem zrs (hi:Inv ρ h n w) (hne:rr≠.fail) (hA:AppN P st xt et ei) {z:Value} (hz:ei.zero=some z) (hzs:z.cells.size=ei.size) {x y:AV} {rx ry:Value} (hx:rel ρ x rx) (hy:rel ρ y ry)
  (e:zdq ei.size ei.bytes x y h n k=rr):Val P (Builtin.append_ #[st,xt] tt #[rx,ry]) ρ h n w k rr:=by
 have fin:∀ {a:Nat} {s:Seg},SrcN P ρ w ei.size ry a s→zev ei.size ei.bytes x a s h n k=rr→Val P (Builtin.append_ #[st,xt] tt #[rx,ry]) ρ h n w k rr:=fun {a s} hs e=>by
  obtain ⟨c,h1,_⟩:=hs.src.cells w rfl
  exact zj9 (f:=fun s=>Builtin.append_ #[st,xt] tt #[s,ry]) hi hne hzs hx hs.src (zx4 hA hz hs.len ⟨c,h1⟩) e
 cases y<;>try exact absurd e.symm hne
 case nils=>simp only [rel] at hy; subst hy; exact fin (zw0 _) e
 case str m z'=>
  obtain ⟨h1,e1⟩:=zab e hne
  rw [Nat.beq_eq] at h1
  exact fin (by rw [h1]; exact zuk hi hy) e1
 case sl b off len cap ex=>
  simp only [zdq] at e
  cases hs:zcz h ei.size len (.sl b off len cap ex) with
  | none=>rw [hs] at e; exact absurd e.symm hne
  | some s=>rw [hs] at e; exact fin (src_sl hi hy hs) e
theorem zkv {size m1 a q y:Nat} {s1 s2:Seg} {c1 c2:Array Value} {et:TypeId} {z:Value} {h2:H} {need nc:Nat} (hi:Inv ρ h2 n w) (hne:rr≠.fail) (hs1:size=1) (hz:z.cells.size=size) (h1:zim ρ size m1 s1 c1) (hs2:zim ρ size a s2 c2)
  (hn:need=m1 + a) (hnc:need≤nc) (ho:zdm size s1 s2=some (.bytes q y)) (hq:q=need) (e:zmt et q y h2 n k=rr):
  ∃ v h' n' σ,k v h' n'=rr∧Goes ρ h2 n w σ h' n' (w.drew.alloc (.cells (c1 ++ c2 ++ Builtin.zeroCells z.cells (nc - need)) et))∧rel σ v (.slice (some ⟨w.heap.size,0,none⟩) need nc):=by
 subst hq
 simp only [zmt] at e
 have hi':Inv ρ h2 n w.drew:=hi.heap rfl
 have htot:(c1 ++ c2 ++ Builtin.zeroCells z.cells (nc - q)).size=nc * size:=by
  simp only [Array.size_append,zde,h1.1,hs2.1,hz]
  rw [← Nat.add_mul,← Nat.add_mul]; congr 1; omega
 obtain ⟨e1,g⟩:=zbp hi' hne (o:=.cells (c1 ++ c2 ++ Builtin.zeroCells z.cells (nc - q)) et) (y:=(size,nc * size)) e (fun hf=>
  zho (zi1 h1 hs2 ho (by simpa [fitO] using hf) (fun j v hv=>zp2 hv) (fun j v hv=>zp3 hv) (fun _=>by rw [htot]) (.inl rfl)) (by rw [htot,hs1]; omega))
 refine ⟨_,_,_,_,e1,(Goes.heap hi (v:=w.drew) rfl).trans g,?_⟩
 simp only [rel]
 refine ⟨w.heap.size,0,0,nc,Mp.ext_same _ _ _ _,rfl,Nat.le_refl _,hnc,(fun h=>by cases h),.inl rfl,fun _=>.inr ?_⟩
 rw [Mp.ext_sameG]; simp
theorem zw3 (hi:Inv ρ h n w) (hne:rr≠.fail) (hA:AppN P st xt et ei) {z:Value} (hz:ei.zero=some z) (hzs:z.cells.size=ei.size) (h1:ei.size=1) (hb1:ei.bytes=1) {x y:AV} {rx ry:Value} (hx:rel ρ x rx) (hy:rel ρ y ry)
  (e:zyc et x y h n k=rr):Val P (Builtin.append_ #[st,xt] tt #[rx,ry]) ρ h n w k rr:=by
 cases y<;>try exact absurd e.symm hne
 case str a z'=>
 simp only [zyc] at e
 have hsn:SrcN P ρ w ei.size ry a (.bs a z'):=by rw [h1]; exact zuk hi hy
 obtain ⟨c0',hc0',_⟩:=hsn.src.cells w rfl
 have hw:Way P w et ei.size ei.bytes z (fun s=>Builtin.append_ #[st,xt] tt #[s,ry]) (rdC P ei.size a ry) a:=zx4 hA hz hsn.len ⟨c0',hc0'⟩
 cases x<;>try exact absurd e.symm hne
 case nils=>
  simp only [rel] at hx; subst hx
  simp only [zyb,zay] at e
  by_cases h0:Nat.beq a 0=true
  ·rw [if_pos h0] at e
   rw [Nat.beq_eq] at h0
   exact .same hi e (hw.nil h0) (by simp only [rel])
  ·rw [if_neg h0] at e
   rw [Nat.beq_eq] at h0
   rw [← zay] at e
   obtain ⟨h2,e2⟩:=zab e hne
   rw [Nat.blt_eq] at h2
   obtain ⟨c2,r2,s2⟩:=hsn.src.cells w.drew rfl
   have hnc:=ziz (w:=w) (need:=0 + a) (cap:=0) (et:=et)
   obtain ⟨v,h',n',σ,e3,g,hr⟩:=zkv (need:=0 + a) (et:=et) hi hne h1 hzs zpb s2 (by omega) hnc (q:=a) (y:=z') rfl (by omega) e2
   exact ⟨v,h',n',σ,_,_,e3,hw.out none 0 0 #[] c2 (by omega) (by rw [hb1]; omega) (by omega) (by simp [Builtin.firstCells]) r2,g,hr⟩
 case sl b off len cap ex=>
  have hx0:=hx
  simp only [rel] at hx
  obtain ⟨r,o,f',c,hρ,rfl,g1,g2,g3,g4,g5⟩:=hx
  simp only [zyb] at e
  cases ex with
  | true=>exact absurd e.symm hne
  | false=>
  rw [zbe] at e
  cases hob:getO h b with
  | none=>rw [hob] at e; exact absurd e.symm hne
  | some ob=>
  rw [hob] at e
  cases ob<;>try exact absurd e.symm hne
  case rowb ty mr q y=>
  simp only [appBO] at e
  obtain ⟨k1,e2⟩:=zab e hne
  obtain ⟨k2,e3⟩:=zab e2 hne
  obtain ⟨k3,e4⟩:=zab e3 hne
  obtain ⟨k5,e5⟩:=zab e4 hne
  obtain ⟨k6,e6⟩:=zab e5 hne
  clear e e2 e3 e4 e5
  rw [Nat.beq_eq] at k1; rw [Nat.ble_eq] at k2 k6; rw [Nat.blt_eq] at k3 k5
  subst k1
  obtain ⟨r',base,q1,q2⟩:=hi.obj b _ hob
  rw [hρ] at q1; cases q1
  obtain ⟨q3,c0,fz,q4,qm⟩:=zhm q2
  have q5:=q3
  rw [q4] at q5
  have hsp:=zbl q5
  have hbt:b < top:=by have:=hi.dom b (by rw [hρ]; simp); have:=hi.lim; unfold top; omega
  have hcv:∀ (w1:World) (c2:Array Value),zim ρ ei.size a (.bs a z') c2→∀ v ∈ c2.toList,zn9 v:=by
   intro w1 c2 s2 v hv
   obtain ⟨j,hj,rfl⟩:=List.mem_iff_getElem.1 hv
   have hj':j < c2.size:=by simpa using hj
   have hget:c2[j]?=some (c2.toList[j]):=by rw [← Array.getElem?_toList,List.getElem?_eq_getElem hj]
   obtain ⟨z1,z2,l,z3,z4⟩:=s2.2
   have k1:=z4 j (by rw [z3.1,z2]; have:=s2.1; rw [z1,Nat.mul_one] at this; omega)
   rw [hget] at k1; rw [Option.some.inj k1]; trivial
  rw [zay] at e6
  by_cases kc:Nat.ble (len + a) cap=true
  ·
   rw [if_pos kc] at e6
   rw [Nat.ble_eq] at kc
   obtain ⟨k7,e7⟩:=zab e6 hne
   obtain ⟨k8,e8⟩:=zab e7 hne
   rw [zam] at e8
   rw [Nat.ble_eq] at k7 k8
   have hf':f'=o + off:=by rcases g4 with g | ⟨_,g6,g7⟩<;>omega
   obtain ⟨c2,r2,s2⟩:=hsn.src.cells w rfl
   have hc2l:c2.toList.length=a:=by have:=s2.1; rw [h1,Nat.mul_one] at this; simpa using this
   obtain ⟨w',r3,r4,r5,r6,r7⟩:=zbk (P:=P) c2.toList (o:=f' + len * ei.size) (i:=0) q4 (by rw [h1]; omega) (fun j hj1 hj2=>hsp.2.at_ (by rw [h1] at hj2; omega)) (hcv w c2 s2)
   obtain ⟨_,_,_,lq,p1,p2,p3,p4⟩:=zcg q3
   rw [q4] at p1; cases p1
   obtain ⟨z1,z2,lz,z3,z4⟩:=s2.2
   have hcut:=zdj p3 (a:=0) (b:=off + len) (by omega) (by omega)
   rw [Nat.sub_zero,List.drop_zero] at hcut
   have hcat:=zfp hcut z3
   have hlq:lq.length=q:=p3.1
   have hlz:lz.length=a:=z3.1
   have hro:relO ρ (ρ.g b) (.rowb ty mr (off + len + a) (catB (cutB q y 0 (off + len)) a z')) w'.heap[r]? o:=by
    rw [r4]
    refine zho ⟨⟨by rw [zau]; exact hsp.1,by rw [zau]; exact hsp.2⟩,k8,_,hcat,fun j hj=>?_⟩ (by rw [zau]; exact qm)
    have hj':j < off + len + a:=by simp at hj; omega
    have hnf:=hsp.2.at_ (j:=o + j) (by omega)
    refine ⟨?_,hnf⟩
    rw [zbq _ _ _ _ (by rw [h1]; omega),h1]
    by_cases hjl:j < off + len
    ·rw [if_neg (by omega)]
     have:=(p4 j (by omega)).1
     rw [this]
     congr 3
     rw [List.getElem_append_left (by simp; omega),List.getElem_take]
    ·rw [if_pos (by omega)]
     have h9:=z4 (j - (off + len)) (by omega)
     rw [← Array.getElem?_toList] at h9
     rw [show o + j - (f' + len * 1 + 0)=j - (off + len) by omega,h9]
     congr 3
     have hL:(lq.take (off + len)).length=off + len:=by simp; omega
     rw [List.getElem_append_right (by omega)]
     simp only [hL]
   have hgo:=hi.set hob hρ k2 hro r5 r6 r7
   refine ⟨_,_,_,_,w',.slice (some ⟨r,f',none⟩) (len + a) c,e8,hw.inPlace _ _ _ c2 w' r2 (by omega) (by rw [zcq]; exact r3),hgo,?_⟩
   simp only [rel]
   exact ⟨r,o,f',c,hρ,rfl,kc,g2,g3,.inl hf',fun _=>g5 rfl⟩
  ·rw [if_neg kc] at e6
   rw [Nat.ble_eq] at kc
   have hib:Inv ρ (setO h b (.bytes q y)) n w:=(hi.set (v:=w) (ao:=.bytes q y) hob hρ k2 q3 (fun _ _=>rfl) rfl).inv
   have hgb:getO (setO h b (.bytes q y)) b=some (.bytes q y):=by rw [za8 hbt,if_pos rfl]
   have hold:∃ old,zcz (setO h b (.bytes q y)) ei.size len (.sl b off len cap false)=some old∧zdm ei.size old (.bs a z')=some (.bytes (len + a) (catB (cutB q y off (off + len)) a z')):=by
    rw [h1]
    by_cases hl0:len=0
    ·subst hl0
     refine ⟨.vs 0 0 .nil,rfl,?_⟩
     show some (AO.bytes a z')=_
     rw [Nat.zero_add]
     congr 2
     simp [zln,zg3,Nat.mod_one]
    ·refine ⟨.bs len (cutB q y off (off + len)),?_,rfl⟩
     simp only [zcz,hgb,segO,zay]
     rw [if_neg (by rw [Nat.beq_eq]; omega),if_pos (by rfl),if_pos (by rw [Nat.ble_eq]; exact k6)]
   obtain ⟨old,hold,hjoin⟩:=hold
   have hkill:Goes ρ h n w ρ (zey h b) n w:=hi.kill hbt
   by_cases hc:c < len + a
   ·obtain ⟨c2,r2,s2⟩:=hsn.src.cells w.drew rfl
    obtain ⟨c1,r1,s1⟩:=zdl (P:=P) (hib.heap (v:=w.drew) rfl) hx0 hold (fun b' o' l' c' ex' e=>by cases e; exact Nat.le_refl _) (fun _ _ e=>by cases e)
    obtain ⟨v,h',n',σ,e4,g,hr⟩:=zkv (et:=ty) hkill.inv hne h1 hzs ⟨s1.1,s1.2⟩ s2 rfl (ziz (cap:=c)) hjoin rfl e6
    exact ⟨v,h',n',σ,_,_,e4,hw.out (some ⟨r,f',none⟩) len c c1 c2 hc (by rw [hb1]; omega) k5 r1 r2,hkill.trans g,hr⟩
   ·have hf':f'=o + off:=by rcases g4 with g | ⟨_,g6,g7⟩<;>omega
    have hge:(ρ.g b)=(1,c0.size):=hsp.1
    have hspa:f' + c * ei.size=c0.size:=by
     rcases g5 rfl with g | g
     ·omega
     ·rw [hge] at g; rw [h1]; exact g
    obtain ⟨c2,r2,s2⟩:=hsn.src.cells w rfl
    obtain ⟨c1,r1,s1⟩:=zdl (P:=P) hib hx0 hold (fun b' o' l' c' ex' e=>by cases e; exact Nat.le_refl _) (fun _ _ e=>by cases e)
    have hmul:len * ei.size + a * ei.size≤c * ei.size:=by rw [← Nat.add_mul]; exact Nat.mul_le_mul_right _ (by omega)
    have hc1:c1=c0.extract f' (f' + len * ei.size):=by
     have r3:(Builtin.firstCells ei.size len (.slice (some ⟨r,f',none⟩) len c)).run P w=.ok (c0.extract f' (f' + len * ei.size)) w:=by
      simp only [Builtin.firstCells]; exact zcv q4 (by omega)
     rw [r1] at r3; exact (Result.ok.inj r3).1
    have hc2l:c2.toList.length=a * ei.size:=by simpa using s2.1
    obtain ⟨w',r3,r4,r5,r6,r7⟩:=zbk (P:=P) c2.toList (o:=f' + len * ei.size) (i:=0) q4 (by omega) (fun j hj1 hj2=>hsp.2.at_ (by omega)) (hcv w c2 s2)
    simp only [zmt] at e6
    obtain ⟨m1,m2,m3⟩:=zdy e6 hne
    have hro:relO ρ (ei.size,c0.size) (.rowb ty (len + a) (len + a) (catB (cutB q y off (off + len)) a z')) w'.heap[r]? f':=by
     rw [r4]
     have hb:f' + len * ei.size + c2.toList.length≤c0.size:=by omega
     refine zho (zi1 ⟨s1.1,s1.2⟩ s2 hjoin (by simpa [fitO] using m2) (fun j v hv=>?_) (fun j v hv=>?_) (fun _=>by rw [zau]) (by rw [zau]; exact hsp.2)) (by rw [zau]; rw [h1] at hspa; omega)
     ·have hjl:=getElem?_lt hv
      rw [s1.1] at hjl
      rw [zbq _ _ _ _ (by omega),if_neg (by omega),← hv,hc1,Array.getElem?_extract,if_pos (by omega)]
     ·have hjl:=getElem?_lt hv
      have hll:c2.toList.length=c2.size:=by simp
      rw [zbq _ _ _ _ (by omega),s1.1,if_pos (by omega),← hv,Array.getElem?_toList]
      congr 1; omega
    have hgo:=hi.regrow m1 hob hρ k2 hro r5 r6 r7
    refine ⟨_,_,_,_,w',.slice (some ⟨r,f',none⟩) (len + a) c,m3,hw.inPlace _ _ _ c2 w' r2 (by omega) (by rw [zcq]; exact r3),hgo,?_⟩
    simp only [rel]
    refine ⟨r,f',f',c,Mp.ext_same _ _ _ _,rfl,Nat.le_refl _,by omega,(fun h=>by cases h),.inl rfl,fun _=>.inr ?_⟩
    rw [Mp.ext_sameG]; exact hspa
theorem z0n {ats:Array TypeId} (hi:Inv ρ h n w) (hne:rr≠.fail) {x:AV} {rx:Value} (hx:rel ρ x rx) (e:usdA x h n k=rr):Val P (Builtin.unsafeSliceData_ ats tt #[rx]) ρ h n w k rr:=by
 cases x<;>try exact absurd e.symm hne
 case nils=>simp only [rel] at hx; subst hx; exact .same hi e rfl (by simp only [rel])
 case sl b off len cap ex=>
  simp only [rel] at hx
  obtain ⟨r,o,f',c,hρ,rfl,g1,g2,g3,g4,g5⟩:=hx
  obtain ⟨h1,e⟩:=zab e hne
  rw [Nat.blt_eq] at h1
  have hf':f'=o + off:=by rcases g4 with g | ⟨_,g6,g7⟩<;>omega
  subst hf'
  exact .same hi e (Lib.run_unsafeSliceData_row w ats tt _ len c (by omega)) (zd3 hρ)
theorem zou {e:TypeId} (hc:P.cellsOf e=1) (count off n:Nat) (hn:off + n≤count):liesAt P P.depth e count off e n=true:=by
 have hd:P.depth=(2 * (P.types.size + Made.depth) + 1) + 1:=rfl
 rw [hd]
 simp only [liesAt,Bool.or_eq_true]
 left
 rw [hd]
 simp [rowAt,hc,hn,sameLayout,Nat.mod_one]
theorem z0o {pt:TypeId} {e0:TypeId} {it:TypeId} (hi:Inv ρ h n w) (hne:rr≠.fail) (hp:P.underlying pt=some (.pointer e0)) (hc1:P.cellsOf e0=1) {x y:AV} {rx ry:Value} (hx:rel ρ x rx) (hy:rel ρ y ry) (e:ustA e0 x y h n k=rr):
  Val P (Builtin.unsafeString_ #[pt,it] tt #[rx,ry]) ρ h n w k rr:=by
 simp only [ustA] at e
 obtain ⟨kd,m,rfl,e⟩:=zbt e hne
 obtain ⟨h1,e2⟩:=zab e hne
 clear e
 rw [Nat.beq_eq] at h1
 obtain ⟨j,p,h2,rfl,h3,h4⟩:=zdc hy
 have hj:j=.i64:=zeo (by rw [← h2,h1]; rfl)
 subst hj
 cases x<;>try exact absurd e2.symm hne
 case nilp=>
  simp only [rel] at hx; subst hx
  obtain ⟨h5,e⟩:=zab e2 hne
  rw [Nat.beq_eq] at h5
  have hp0:p=0:=by
   have:=zcu h4
   rw [← h3,h5] at this
   have h6:=this.1.1 (by decide)
   have:=this.2 h6; omega
  subst hp0
  exact .same hi e (by exact Lib.run_unsafeString_none w pt it tt none) (by simp only [rel]; exact ⟨.empty,rfl,⟨rfl,rfl⟩⟩)
 case ptr b off=>
  obtain ⟨r,o,hρ,rfl⟩:=zca hx
  have e:ustO e0 b off m (getO h b) h n k=rr:=e2
  cases hob:getO h b with
  | none=>rw [hob] at e; exact absurd e.symm hne
  | some ob=>
  rw [hob] at e
  cases ob<;>try exact absurd e.symm hne
  case rowb ty mr q yy=>
  simp only [ustO] at e
  obtain ⟨k1,e3⟩:=zab e hne
  obtain ⟨k2,e4⟩:=zab e3 hne
  obtain ⟨k3,e5⟩:=zab e4 hne
  obtain ⟨k4,e6⟩:=zab e5 hne
  obtain ⟨k5,e7⟩:=zab e6 hne
  rw [zam] at e7
  clear e e3 e4 e5 e6 e2
  rw [Nat.beq_eq] at k1; rw [Nat.ble_eq] at k2 k5; rw [Nat.blt_eq] at k3 k4
  subst k1
  have hpm:p=(m:Int):=by
   have:=zcu h4
   rw [← h3] at this
   have h6:=this.1.1 (by show m < 9223372036854775808; exact k4)
   have:=this.2 h6; omega
  subst hpm
  obtain ⟨r',base,q1,q2⟩:=hi.obj b _ hob
  rw [hρ] at q1; cases q1
  obtain ⟨q3,c0,fz,q4,_⟩:=zhm q2
  obtain ⟨c',e',fz',l,p1,p2,p3,p4⟩:=zcg q3
  rw [q4] at p1; cases p1
  have hbt:b < top:=by have:=hi.dom b (by rw [hρ]; simp); have:=hi.lim; unfold top; omega
  have hll:l.length=q:=p3.1
  have hsl:=zdj p3 (a:=off) (b:=off + m) (by omega) (by omega)
  rw [Nat.add_sub_cancel_left] at hsl
  have hlen:((l.take (off + m)).drop off).length=m:=by simp; omega
  have hcell:∀ j x,((l.take (off + m)).drop off)[j]?=some x→w.cell? ((⟨r,o + off,none⟩:Addr).add j)=some (.int .u8 x.toNat):=fun j x hj=>by
   rw [zcq,zhz q4]
   have hjm:j < m:=by have:=(List.getElem?_eq_some_iff.1 hj).1; omega
   rw [List.getElem?_drop,List.getElem?_take,if_pos (by omega)] at hj
   have hoj:off + j < l.length:=by omega
   rw [List.getElem?_eq_getElem hoj] at hj
   cases hj
   have:=(p4 (off + j) hoj).1
   rw [show o + off + j=o + (off + j) by omega]; exact this
  have hfit:o + off + m≤c0.size:=by
   have:=getElem?_lt (p4 (off + m - 1) (by omega)).1; omega
  have hsh:w.shape? r=some (ty,c0.size):=by simp only [World.shape?,q4]
  have hlies:=zou (P:=P) hc1 (c0.size / P.cellsOf ty) (o + off) m (by rw [hc1,Nat.div_one]; exact hfit)
  have hlb:=Lib.run_loadBytes (P:=P) w _ ⟨r,o + off,none⟩ .empty hcell
  rw [hlen] at hlb
  have hrun:(Builtin.unsafeString_ #[pt,it] tt #[.pointer (some ⟨r,o + off,none⟩),.int .i64 (m:Int)]).run P w=.ok (.string ⟨((l.take (off + m)).drop off).toArray⟩) (w.freeze ⟨r,o + off,none⟩ m):=by
   have hdef:Builtin.unsafeString_ #[pt,it] tt #[.pointer (some ⟨r,o + off,none⟩),.int .i64 (m:Int)]=
     (do
      let n ← Go.asInt (Value.int .i64 (m:Int))
      if n < 0 then runtimePanic (.error "unsafe.String: len out of range")
      if n > IntKind.i64.max then unsupported (.unsafePointer "String: a length above the largest int")
      if n=0 then pure (.string .empty)
      else if ← variablesAt ⟨r,o + off,none⟩ (← elemOf pt) n.toNat then do
       let s ← loadBytes ⟨r,o + off,none⟩ .empty n.toNat
       freeze ⟨r,o + off,none⟩ n.toNat
       pure (.string s)
      else unsupported (.unsafePointer "String: not so many bytes at ptr")) := rfl
   rw [hdef]
   have hmax:IntKind.i64.max=9223372036854775807:=rfl
   have hneg:¬ (m:Int) < 0:=by omega
   have hm0:¬ m=0:=by omega
   have h63':¬ (9223372036854775807:Int) < (m:Int):=by omega
   simp [Go.asInt,asIntOf,hmax,h63',hneg,hm0,variablesAt,hsh,elemOf,run_underlying hp,hlies,hlb]
  refine ⟨_,_,_,ρ,_,_,e7,hrun,?_,by simp only [rel]; exact ⟨_,rfl,hsl⟩⟩
  have hheap:(w.freeze ⟨r,o + off,none⟩ m).heap=w.heap.modify r fun
    | .cells c elem (lo,hi)=>.cells c elem (if lo == hi then (o + off,o + off + m) else (min lo (o + off),max hi (o + off + m)))
    | o=>o:=by
   unfold World.freeze; rw [if_neg (by omega)]; rfl
  have hq:∀ s,s≠r→(w.freeze ⟨r,o + off,none⟩ m).heap[s]?=w.heap[s]?:=fun s hs=>by
   rw [hheap,Array.getElem?_modify,if_neg (fun e=>hs e.symm)]
  have hsz:(w.freeze ⟨r,o + off,none⟩ m).heap.size=w.heap.size:=by rw [hheap]; simp
  have hio:(w.freeze ⟨r,o + off,none⟩ m).os=w.os∧(w.freeze ⟨r,o + off,none⟩ m).output=w.output:=by unfold World.freeze; split<;>exact ⟨rfl,rfl⟩
  have hk:=hi.kill hbt
  have hsub:∀ c p,getO (zey h b) c=some p→c≠b∧getO h c=some p:=fun c p hc=>by
   rw [zdu hbt] at hc
   split at hc
   ·cases hc
   ·rename_i hcb; exact ⟨hcb,hc⟩
  refine ⟨⟨fun c p hc=>?_,hk.inv.inj,hi.dom,fun b' r' x' hb'=>by rw [hsz]; exact hi.rng b' r' x' hb',hi.lim,hi.st⟩,Mp.le_refl _,Nat.le_refl _,by rw [hsz]; exact Nat.le_refl _,fun s hs hl=>hq s (fun e=>hl (e ▸ ⟨b,_,o,k2,hob,hρ⟩)),fun s hs hl=>hk.lives s hs hl,hio⟩
  obtain ⟨hcb,hc'⟩:=hsub c p hc
  obtain ⟨s,xx,h7,h8⟩:=hi.obj c p hc'
  refine ⟨s,xx,h7,?_⟩
  rw [hq s ?_]
  ·exact h8
  ·rintro rfl
   exact hcb (hi.inj c b _ _ _ _ _ hc' hob h7 hρ)
theorem zte {x:AV} {v:Value} {a:Nat} (hr:rel ρ x v) (e:zm0 x=some a):(Builtin.lenOf v).run P w=.ok a w:=by
 cases x<;>try cases e
 case nils=>simp only [rel] at hr; subst hr; rfl
 case sl=>simp only [rel] at hr; obtain ⟨r,o,f,c,_,rfl,_⟩:=hr; rfl
 case str=>simp only [rel] at hr; obtain ⟨s,rfl,hp⟩:=hr; simp only [Builtin.lenOf,Sem.run_pure]; rw [Lib.size_eq,hp.1]
theorem zw4 (hi:Inv ρ h n w) (hne:rr≠.fail) {ats:Array TypeId} (h0:ats[0]?=some st) (hs:P.underlying st=some (.slice et)) (hin:P.info? et=some ei) {x y:AV} {rx ry:Value} (hx:rel ρ x rx) (hy:rel ρ y ry) (hstr:∀ m z,y=.str m z→ei.size=1)
  (e:zmq ei.size x y h n k=rr):Val P (Builtin.copy_ ats tt #[rx,ry]) ρ h n w k rr:=by
 simp only [zmq] at e
 cases hl1:zm0 x with
 | none=>rw [hl1] at e; exact absurd e.symm hne
 | some a=>
  cases hl2:zm0 y with
  | none=>rw [hl1,hl2] at e; exact absurd e.symm hne
  | some c=>
   rw [hl1,hl2] at e
   obtain ⟨hsm,e1⟩:=zeu hi hne e
   have hly:=zte (P:=P) (w:=w) hy hl2
   cases hsg:zcz h ei.size (Nat.min c a) y with
   | none=>rw [hsg] at e1; exact absurd e1.symm hne
   | some s=>
    rw [hsg] at e1
    have hmin1:Nat.min c a≤c:=Nat.min_le_left _ _
    have hmin2:Nat.min c a≤a:=Nat.min_le_right _ _
    obtain ⟨cs,r1,s1⟩:=zdl (P:=P) hi hy hsg (fun b o l cp ex e=>by subst e; cases hl2; exact hmin1) hstr
    cases x<;>try exact absurd e1.symm hne
    case nils=>
     cases hl1
     simp only [rel] at hx; subst hx
     have hm0:Nat.min c 0=0:=Nat.min_zero c
     rw [hm0] at r1
     refine .same hi e1 (rv:=goInt 0) ?_ (zcn hi hne (m:=0) (by omega))
     simp only [Builtin.copy_,Sem.run_bind,h0]
     simp [zac hs,hly,zaw hin,hm0,r1]
    case sl b off l cp ex=>
     cases hl1
     simp only [zks] at e1
     obtain ⟨h',e2,e3⟩:=zxp e1 hne
     simp only [rel] at hx
     obtain ⟨r,o,f,cc,hρ,rfl,g1,g2,g3,g4,g5⟩:=hx
     have key:∃ w',(storeCells ⟨r,f,none⟩ cs.toList).run P w=.ok () w'∧Goes ρ h n w ρ h' n w':=by
      rcases g4 with g4 | ⟨g6,g7,g8⟩
      ·rcases ztd (P:=P) hi hρ e2 ⟨s1.1,s1.2⟩ with ⟨k1,k2⟩ | ⟨w',k1,k2⟩
       ·subst k2
        have:cs.toList=[]:=List.eq_nil_of_length_eq_zero (by simpa using k1)
        rw [this]
        exact ⟨w,by simp [storeCells],Goes.refl hi⟩
       ·exact ⟨w',by rw [g4]; exact k1,k2⟩
      ·have hm0:Nat.min c a=0:=by omega
       have hc0:cs.size=0:=by rw [s1.1,hm0]; simp
       have:cs.toList=[]:=List.eq_nil_of_length_eq_zero (by simpa using hc0)
       rw [this]
       have hh:h'=h:=by
        cases s with
        | vs q i t=>
         have:=s1.2.1
         simp only [ze9,zay] at e2
         rw [if_pos (by rw [Nat.beq_eq]; rw [this,hm0]; simp)] at e2
         exact (Option.some.inj e2).symm
        | bs q x=>
         have:=s1.2.2.1
         simp only [ze9,zay] at e2
         rw [if_pos (by rw [Nat.beq_eq]; rw [this,hm0])] at e2
         exact (Option.some.inj e2).symm
       subst hh
       exact ⟨w,by simp [storeCells],Goes.refl hi⟩
     obtain ⟨w',k1,k2⟩:=key
     refine ⟨_,_,_,_,w',goInt (Nat.min c a),e3,?_,k2,zba (Mp.le_refl ρ) _ _ (zcn hi hne hsm)⟩
     simp only [Builtin.copy_,Sem.run_bind,h0]
     simp [zac hs,hly,zaw hin,r1,k1]
end
theorem zfi {ks:Bool} {x y:AV} {rx ry:Value} {kt:TypeDesc} {b:Bool} (hkt:(ks=true∧kt=.string)∨(ks=false∧∃ kd,kt=.int kd)) (hk:zgn ks x=true) (hx:rel ρ x rx) (hy:rel ρ y ry) (e:zsh x y=some b):Instr.sameNow kt rx ry=some b:=by
 cases x<;>first | (exact absurd (show false=true from hk) (by decide)) | skip
 case int i a=>
  cases y<;>first | (exact absurd (show none=some b from e) (by simp)) | skip
  rename_i j c
  simp only [zsh] at e
  obtain ⟨h1,e1⟩:=za3 e
  rw [Nat.beq_eq] at h1; subst h1
  simp only [zgn,Bool.not_eq_true'] at hk
  obtain ⟨kd,m,rfl,rfl,rfl,hm⟩:=zdc hx
  obtain ⟨m',rfl,rfl,hm'⟩:=za6 hy
  rcases hkt with ⟨h2,_⟩ | ⟨_,kd',rfl⟩
  ·rw [hk] at h2; cases h2
  ·simp only [Instr.sameNow,if_true]
   rw [← e1]; congr 1
   rw [Bool.eq_iff_iff,beq_iff_eq,Nat.beq_eq]
   exact ⟨fun e=>by rw [e],fun e=>zh0 hm hm' e⟩
 case str p a=>
  cases y<;>first | (exact absurd (show none=some b from e) (by simp)) | skip
  rename_i q c
  simp only [zgn] at hk
  simp only [rel] at hx hy
  obtain ⟨s,rfl,hs⟩:=hx
  obtain ⟨u,rfl,hu⟩:=hy
  rcases hkt with ⟨_,rfl⟩ | ⟨h2,_⟩
  ·simp only [Instr.sameNow]
   simp only [zsh] at e
   rw [← e]; congr 1
   rw [beq_toListBytes,ByteArray.toList_eq,ByteArray.toList_eq,Bool.eq_iff_iff,beq_iff_eq,zl6 hs hu,zay]
   split
   ·rename_i e; rw [Nat.beq_eq] at e; simp [e]
   ·rename_i e; rw [Nat.beq_eq] at e; simp [e]
  ·rw [hk] at h2; cases h2
inductive relM (ρ:Mp):List (AV × AV)→List MapEntry→Prop
 | nil:relM ρ [] []
 | cons {a v l e es}:rel ρ a e.key→rel ρ v e.val→relM ρ l es→relM ρ ((a,v) :: l) (e :: es)
theorem zt5:∀ {l:List (AV × AV)} {es:List MapEntry},es.length=l.length→(∀ i (hi:i < l.length) (hj:i < es.length),rel ρ (l[i]'hi).1 (es[i]'hj).key∧rel ρ (l[i]'hi).2 (es[i]'hj).val)→relM ρ l es
 | [],[],_,_=>.nil
 | [],_ :: _,h,_=>by cases h
 | _ :: _,[],h,_=>by cases h
 | (a,v) :: l,e :: es,h,hh=>by
  have h0:=hh 0 (by simp) (by simp)
  refine .cons h0.1 h0.2 (zt5 (by simpa using h) (fun i hi hj=>?_))
  have:=hh (i + 1) (by simp; omega) (by simp; omega)
  simpa using this
theorem zt4 {l:List (AV × AV)} {es:List MapEntry} (hm:relM ρ l es):es.length=l.length∧∀ i (hi:i < l.length) (hj:i < es.length),rel ρ (l[i]'hi).1 (es[i]'hj).key∧rel ρ (l[i]'hi).2 (es[i]'hj).val:=by
 induction hm with
 | nil=>exact ⟨rfl,fun i hi=>by simp at hi⟩
 | cons h1 h2 _ ih=>
  refine ⟨by simp [ih.1],fun i hi hj=>?_⟩
  cases i with
  | zero=>exact ⟨h1,h2⟩
  | succ i=>simpa using ih.2 i (by simpa using hi) (by simpa using hj)
theorem zsl {ks:Bool} {kt:TypeDesc} {x:AV} {rx:Value} (hkt:(ks=true∧kt=.string)∨(ks=false∧∃ kd,kt=.int kd)) (hk:zgn ks x=true) (hx:rel ρ x rx) {l:List (AV × AV)} {es:List MapEntry} (hm:relM ρ l es):
  ∀ {o:Option AV} (i:Nat),zg5 x l=some o→(o=none∧Instr.findNow kt rx es i=some none)∨∃ v j e,o=some v∧Instr.findNow kt rx es i=some (some (i + j,e.val))∧es[j]?=some e∧rel ρ v e.val:=by
 induction hm with
 | nil=>intro o i e; cases e; exact .inl ⟨rfl,rfl⟩
 | cons h1 h2 hrest ih=>
  rename_i a v l e es
  intro o i eq
  simp only [zg5] at eq
  split at eq
  ·rename_i hb
   cases eq
   right
   refine ⟨v,0,e,rfl,?_,rfl,h2⟩
   simp only [Instr.findNow,zfi hkt hk hx h1 hb,Nat.add_zero]
  ·rename_i hb
   rcases ih (i + 1) eq with ⟨h3,h4⟩ | ⟨u,j,e',h3,h4,h5,h6⟩
   ·left; exact ⟨h3,by simp only [Instr.findNow,zfi hkt hk hx h1 hb,h4]⟩
   ·right
    refine ⟨u,j + 1,e',h3,?_,by simpa using h5,h6⟩
    simp only [Instr.findNow,zfi hkt hk hx h1 hb,h4]
    congr 3; omega
  ·cases eq
end
end
end Go.VE
namespace Go.VE
noncomputable section
open Go
section
variable {P:Program} {ρ:Mp} {h:H} {n:Nat} {w:World} {k:K} {rr:RR}
def KeyT (P:Program) (ks:Bool) (kt:TypeId):Prop:=∃ d,P.underlying kt=some d∧((ks=true∧d=.string)∨(ks=false∧∃ kd,d=.int kd))
theorem zie {ks:Bool} {kt:TypeId} (hk:KeyT P ks kt) (e:Bool) (v:Value):∀ m,(Instr.checkKey e (m + 1) kt v).run P w=.ok () w:=by
 intro m
 obtain ⟨d,hd,h1⟩:=hk
 rcases h1 with ⟨_,rfl⟩ | ⟨_,kd,rfl⟩<;>simp [Instr.checkKey,zac hd]
theorem zd1 {kt:TypeId} {d:TypeDesc} (hd:P.underlying kt=some d) {kv:Value} {es:List MapEntry} {r:Option (Nat × Value)} (hf:Instr.findNow d kv es 0=some r):(Instr.findKey kt kv es).run P w=.ok r w:=by
 simp [Instr.findKey,zac hd,hf]
theorem zh8 {r:Nat} {o p:Obj} (ho:w.heap[r]?=some o) (hc:∀ c e f,o≠.cells c e f):(setObj r p).run P w=.ok () { w with heap:=w.heap.setIfInBounds r p }:=by
 cases o<;>first | exact absurd rfl (hc _ _ _) | simp [setObj,Sem.run,ho]
theorem zqn {r:Nat} {o p:Obj} {a:Array Obj} (ho:a[r]?=some o):(a.setIfInBounds r p)[r]?=some p∧(∀ q,q≠r→(a.setIfInBounds r p)[q]?=a[q]?)∧(a.setIfInBounds r p).size=a.size:=by
 have hlt:r < a.size:=by
  rcases Nat.lt_or_ge r a.size with g | g
  ·exact g
  ·rw [Array.getElem?_eq_none g] at ho; cases ho
 refine ⟨by simp [hlt],fun q hq=>by rw [Array.getElem?_setIfInBounds_ne (by omega)],by simp⟩
section
variable (hi:Inv ρ h n w) (hne:rr≠.fail)
include hi hne
theorem zth {b:Nat} {l:List (AV × AV)} {r:Nat} (hρ:ρ b=some (r,0)) (ho:getO h b=some (.map l)):∃ es c,w.heap[r]?=some (.map es c)∧relM ρ l es.toList∧MapKept.Stamped es c:=by
 obtain ⟨r',base,h1,h2⟩:=hi.obj b _ ho
 rw [hρ] at h1; cases h1
 obtain ⟨es,c,h3,_,hst,h4,h5⟩:=zi9 h2
 exact ⟨es,c,h3,zt5 h4 h5,hst⟩
theorem zrv {t kt et:TypeId} {ei:TypeInfo} {z:Value} {zero:AV} {ks ok:Bool} {x y:AV} {rx ry:Value} (hx:rel ρ x rx) (hy:rel ρ y ry) (ht:P.underlying t=some (.map kt et)) (hk:KeyT P ks kt) (hei:P.info? et=some ei) (hz:ei.zero=some z) (hzr:rel ρ zero z)
  (e:br (zgn ks y) (zkg zero ok (zq5 h x y) h n k) .fail=rr):Val P (Instr.lookup t rx ry ok) ρ h n w k rr:=by
 obtain ⟨h1,e1⟩:=zab e hne
 obtain ⟨d,hd,hdk⟩:=hk
 have hkt:KeyT P ks kt:=⟨d,hd,hdk⟩
 have hck:∀ b,(Instr.checkKey b 10000 kt ry).run P w=.ok () w:=fun b=>zie hkt _ _ 9999
 have rel2:∀ (v:AV) (rv:Value) (b:Bool),rel ρ v rv→rel ρ (br ok (.tup (.cons v (.cons (.bool b) .nl))) v) (if ok then .tuple #[rv,.bool b] else rv):=fun v rv b hv=>by
  cases ok
  ·exact hv
  ·simp only [zb2,if_true,rel]
   exact ⟨_,rfl,relL_cons.2 ⟨rv,[.bool b],rfl,hv,relL_cons.2 ⟨.bool b,[],rfl,zbr b,relL_nil.2 rfl⟩⟩⟩
 cases x<;>try exact absurd e1.symm hne
 case nilm=>
  simp only [rel] at hx; subst hx
  have h3:Instr.findNow d ry (#[]:Array MapEntry).toList 0=some none:=rfl
  refine .same hi e1 (rv:=if ok then .tuple #[z,.bool false] else z) ?_ (rel2 _ _ _ hzr)
  simp only [Instr.lookup,Sem.run_bind,zac ht,Result.andThen_ok,Sem.run_pure,hck,zd1 hd h3,zbj hei hz]
 case map b=>
  simp only [rel] at hx
  obtain ⟨r,hρ,rfl⟩:=hx
  simp only [zq5] at e1
  cases ho:getO h b with
  | none=>rw [ho] at e1; exact absurd e1.symm hne
  | some o=>
   rw [ho] at e1
   cases o<;>try exact absurd e1.symm hne
   rename_i l
   obtain ⟨es,c,h3,h4,hst⟩:=zth hi hne hρ ho
   have h6:=zfz (P:=P) h3 (fun _ _ _=>by simp)
   have e2:zkg zero ok (zg5 y l) h n k=rr:=e1
   cases hf:zg5 y l with
   | none=>rw [hf] at e2; exact absurd e2.symm hne
   | some o=>
    rw [hf] at e2
    rcases zsl hdk h1 hy h4 0 hf with ⟨rfl,h8⟩ | ⟨v,j,en,rfl,h8,h9,h10⟩
    ·refine .same hi e2 (rv:=if ok then .tuple #[z,.bool false] else z) ?_ (rel2 _ _ _ hzr)
     simp only [Instr.lookup,Sem.run_bind,zac ht,Result.andThen_ok,h6,Sem.run_pure,hck,zd1 hd h8,zbj hei hz]
    ·refine .same hi e2 (rv:=if ok then .tuple #[en.val,.bool true] else en.val) ?_ (rel2 _ _ _ h10)
     simp only [Instr.lookup,Sem.run_bind,zac ht,Result.andThen_ok,h6,Sem.run_pure,hck,zd1 hd h8]
end
theorem znt {ks:Bool} {d:TypeDesc} {a b:Value} (hdk:(ks=true∧d=.string)∨(ks=false∧∃ kd,d=.int kd)) (hs:Instr.sameNow d a b=some true):∀ m,Instr.sameBits m b a=true:=by
 intro m
 rcases hdk with ⟨_,rfl⟩ | ⟨_,kd,rfl⟩
 ·cases a<;>cases b<;>simp [Instr.sameNow] at hs
  rw [beq_toListBytes] at hs
  have h2:=hs
  rw [beq_iff_eq] at h2
  cases m<;>simp only [Instr.sameBits]<;>rw [beq_toListBytes,h2,beq_self_eq_true]
 ·cases a<;>cases b<;>simp [Instr.sameNow] at hs
  obtain ⟨h1,h2⟩:=hs
  subst h1; subst h2
  cases m<;>simp [Instr.sameBits]
theorem zww {ks:Bool} {d:TypeDesc} {x v:AV} {rx rv:Value} (hdk:(ks=true∧d=.string)∨(ks=false∧∃ kd,d=.int kd)) (hk:zgn ks x=true) (hx:rel ρ x rx) (hv:rel ρ v rv) {l:List (AV × AV)} {es:List MapEntry} (hm:relM ρ l es):
  ∀ {l':List (AV × AV)} (i:Nat),setK x v l=some l'→(Instr.findNow d rx es i=some none∧l'=l ++ [(x,v)])∨
   ∃ j e,Instr.findNow d rx es i=some (some (i + j,e.val))∧es[j]?=some e∧Instr.sameNow d rx e.key=some true∧relM ρ l' (es.set j { e with key:=rx,val:=rv }):=by
 induction hm with
 | nil=>intro l' i e; cases e; exact .inl ⟨rfl,rfl⟩
 | cons h1 h2 hrest ih=>
  rename_i a u l e es
  intro l' i eq
  simp only [setK] at eq
  split at eq
  ·rename_i hb
   cases eq
   right
   have hs:=zfi hdk hk hx h1 hb
   exact ⟨0,e,by simp only [Instr.findNow,hs,Nat.add_zero],rfl,hs,.cons hx hv hrest⟩
  ·rename_i hb
   have hs:=zfi hdk hk hx h1 hb
   cases hr:setK x v l with
   | none=>rw [hr] at eq; cases eq
   | some l2=>
    rw [hr] at eq; cases eq
    rcases ih (i + 1) hr with ⟨h3,h4⟩ | ⟨j,e',h3,h4,h5,h6⟩
    ·left
     exact ⟨by simp only [Instr.findNow,hs,h3],by rw [h4]; rfl⟩
    ·right
     refine ⟨j + 1,e',?_,by simpa using h4,h5,?_⟩
     ·simp only [Instr.findNow,hs,h3]; congr 3; omega
     ·exact .cons h1 h2 h6
  ·cases eq
theorem zku {d:TypeDesc} {rx:Value} (hself:Instr.sameNow d rx rx=some true):∀ {es:List MapEntry} {i:Nat},Instr.findNow d rx es i=some none→∀ e ∈ es,e.key≠rx
 | [],_,_=>fun e he=>nomatch he
 | a :: es,i,h=>by
  simp only [Instr.findNow] at h
  cases hs:Instr.sameNow d rx a.key with
  | none=>rw [hs] at h; cases h
  | some b=>
   rw [hs] at h
   cases b
   ·intro e he
    rcases List.mem_cons.1 he with rfl | he
    ·intro hc; rw [hc,hself] at hs; cases hs
    ·exact zku hself h e he
   ·cases h
theorem zy4 {ks:Bool} {d:TypeDesc} {x:AV} {rx:Value} (hdk:(ks=true∧d=.string)∨(ks=false∧∃ kd,d=.int kd)) (hk:zgn ks x=true) (hx:rel ρ x rx):Instr.sameNow d rx rx=some true:=by
 cases x<;>first | (exact absurd (show false=true from hk) (by decide)) | skip
 case int i a=>
  simp only [zgn,Bool.not_eq_true'] at hk
  obtain ⟨kd,m,rfl,rfl,rfl,hm⟩:=zdc hx
  rcases hdk with ⟨h2,_⟩ | ⟨_,kd',rfl⟩
  ·rw [hk] at h2; cases h2
  ·simp [Instr.sameNow]
 case str p a=>
  simp only [zgn] at hk
  simp only [rel] at hx
  obtain ⟨s,rfl,hs⟩:=hx
  rcases hdk with ⟨_,rfl⟩ | ⟨h2,_⟩
  ·simp only [Instr.sameNow]
   rw [beq_toListBytes,beq_self_eq_true]
  ·rw [hk] at h2; cases h2
theorem zzz {ks:Bool} {d:TypeDesc} {a b:Value} (hdk:(ks=true∧d=.string)∨(ks=false∧∃ kd,d=.int kd)) (hs:Instr.sameNow d a b=some true):a=b:=by
 rcases hdk with ⟨_,rfl⟩ | ⟨_,kd,rfl⟩
 ·cases a<;>cases b<;>simp [Instr.sameNow] at hs
  rename_i x y
  have:x=y:=by
   rw [beq_toListBytes,beq_iff_eq,ByteArray.toList_eq,ByteArray.toList_eq] at hs
   cases x; cases y; simp at hs; rw [hs]
  rw [this]
 ·cases a<;>cases b<;>simp [Instr.sameNow] at hs
  obtain ⟨h1,h2⟩:=hs
  subst h1; subst h2; rfl
theorem zt6 {l:List (AV × AV)} {es:List MapEntry} (hm:relM ρ l es) {a v:AV} {e:MapEntry} (h1:rel ρ a e.key) (h2:rel ρ v e.val):relM ρ (l ++ [(a,v)]) (es ++ [e]):=by
 induction hm with
 | nil=>exact .cons h1 h2 .nil
 | cons g1 g2 _ ih=>exact .cons g1 g2 ih
section
variable (hi:Inv ρ h n w) (hne:rr≠.fail)
include hi hne
theorem zrr {t kt et:TypeId} {ks:Bool} {x y v:AV} {rx ry rv:Value} (hx:rel ρ x rx) (hy:rel ρ y ry) (hv:rel ρ v rv) (ht:P.underlying t=some (.map kt et)) (hk:KeyT P ks kt)
  (e:br (zgn ks y) (zow x y v h n k) .fail=rr):Unt P (Instr.mapUpdate t rx ry rv) ρ h n w k rr:=by
 obtain ⟨h1,e1⟩:=zab e hne
 obtain ⟨d,hd,hdk⟩:=hk
 have hkt:KeyT P ks kt:=⟨d,hd,hdk⟩
 cases x<;>try exact absurd e1.symm hne
 rename_i b
 simp only [rel] at hx
 obtain ⟨r,hρ,rfl⟩:=hx
 simp only [zow] at e1
 cases ho:getO h b with
 | none=>rw [ho] at e1; exact absurd e1.symm hne
 | some o=>
  rw [ho] at e1
  cases o<;>try exact absurd e1.symm hne
  rename_i l
  obtain ⟨es,c,h3,h4,hst⟩:=zth hi hne hρ ho
  simp only [ztg] at e1
  obtain ⟨hkb,e1⟩:=zab e1 hne
  rw [Nat.ble_eq] at hkb
  cases hs:setK y v l with
  | none=>rw [hs] at e1; exact absurd e1.symm hne
  | some l'=>
   rw [hs] at e1
   have hck:(Instr.checkKey false 10000 kt ry).run P w=.ok () w:=zie hkt _ _ 9999
   have h6:=zfz (P:=P) h3 (fun _ _ _=>by simp)
   have done:∀ (es':Array MapEntry) (c':Nat),relM ρ l' es'.toList→MapKept.Stamped es' c'→(Instr.mapUpdate t (.map (some r)) ry rv).run P w=.ok () { w with heap:=w.heap.setIfInBounds r (.map es' c') }→Unt P (Instr.mapUpdate t (.map (some r)) ry rv) ρ h n w k rr:=by
    intro es' c' hm hst' hrun
    obtain ⟨p1,p2,p3⟩:=zqn (p:=.map es' c') h3
    refine ⟨_,_,ρ,_,e1,hrun,hi.set ho hρ hkb ?_ p2 p3⟩
    show relO ρ (ρ.g b) (.map l') (w.heap.setIfInBounds r (.map es' c'))[r]? 0
    rw [p1]
    exact ⟨rfl,hst',(zt4 hm).1,(zt4 hm).2⟩
   rcases zww hdk h1 hy hv h4 0 hs with ⟨h7,h8⟩ | ⟨j,en,h7,h8,h9,h10⟩
   ·subst h8
    refine done (es.push { key:=ry,val:=rv,born:=c }) (c + 1) (by rw [Array.toList_push]; exact zt6 h4 hy hv) (MapKept.stamped_push hst (zku (zy4 hdk h1 hy) h7)) ?_
    simp only [Instr.mapUpdate,Sem.run_bind,zac ht,Result.andThen_ok,h6,hck,zd1 hd h7,zh8 h3 (fun _ _ _=>by simp)]
   ·rw [Nat.zero_add] at h7
    have hj:es[j]?=some en:=by rw [← Array.getElem?_toList]; exact h8
    have hkey:(Instr.keyThatStays (((es[j]?).map (·.key)).getD ry) ry).run P w=.ok ry w:=by
     rw [hj]
     simp only [Option.map_some,Option.getD_some,Instr.keyThatStays]
     rw [if_pos (znt hdk h9 10000)]
     rfl
    refine done (es.modify j fun e=>{ e with key:=ry,val:=rv }) c ?_ (MapKept.stamped_modify hst j _ (fun _ _=>rfl) (fun e he hje=>by
     rw [hj] at hje; cases hje
     exact zzz hdk h9)) ?_
    ·have:(es.modify j fun e=>{ e with key:=ry,val:=rv }).toList=es.toList.set j { en with key:=ry,val:=rv }:=by
      apply List.ext_getElem?
      intro i
      rw [Array.getElem?_toList,Array.getElem?_modify,List.getElem?_set]
      by_cases hij:j=i
      ·subst hij
       have hlt:j < es.toList.length:=by
        rcases Nat.lt_or_ge j es.toList.length with g | g
        ·exact g
        ·rw [List.getElem?_eq_none g] at h8; cases h8
       rw [if_pos rfl,if_pos rfl,hj,if_pos hlt]; rfl
      ·rw [if_neg hij,if_neg hij,Array.getElem?_toList]
     rw [this]; exact h10
    ·simp only [Instr.mapUpdate,Sem.run_bind,zac ht,Result.andThen_ok,h6,hck,zd1 hd h7,hkey,zh8 h3 (fun _ _ _=>by simp)]
theorem zuu {t kt et tt:TypeId} {ats:Array TypeId} {x:AV} {rx:Value} (hx:rel ρ x rx) (h0:ats[0]?=some t) (ht:P.underlying t=some (.map kt et)) (e:zr9 x h n k=rr):Val P (Builtin.clear_ ats tt #[rx]) ρ h n w k rr:=by
 cases x<;>try exact absurd e.symm hne
 case nilm=>
  simp only [rel] at hx; subst hx
  refine .same hi e (rv:=.tuple #[]) ?_ (by simp only [rel])
  simp only [Builtin.clear_,h0]
  simp [zac ht]
 case map b=>
  simp only [rel] at hx
  obtain ⟨r,hρ,rfl⟩:=hx
  simp only [zr9] at e
  cases ho:getO h b with
  | none=>rw [ho] at e; exact absurd e.symm hne
  | some o=>
   rw [ho] at e
   cases o<;>try exact absurd e.symm hne
   obtain ⟨es,c,h3,h4,hst⟩:=zth hi hne hρ ho
   obtain ⟨hkb,e⟩:=zab e hne
   rw [Nat.ble_eq] at hkb
   have h6:=zfz (P:=P) h3 (fun _ _ _=>by simp)
   obtain ⟨p1,p2,p3⟩:=zqn (p:=.map #[] c) h3
   refine ⟨_,_,_,ρ,{ w with heap:=w.heap.setIfInBounds r (.map #[] c) },.tuple #[],e,?_,hi.set ho hρ hkb ?_ p2 p3,by simp only [rel]⟩
   ·simp only [Builtin.clear_,h0]
    simp [zac ht,h6,zh8 h3 (fun _ _ _=>by simp)]
   ·show relO ρ (ρ.g b) (.map []) (w.heap.setIfInBounds r (.map #[] c))[r]? 0
    rw [p1]
    exact ⟨rfl,MapKept.stamped_empty c,rfl,fun i hi=>by simp at hi⟩
theorem zrt {t et tt:TypeId} {ei:TypeInfo} {ats:Array TypeId} {x l:AV} {rx z:Value} (hx:rel ρ x rx) (h0:ats[0]?=some t) (ht:P.underlying t=some (.slice et)) (hin:P.info? et=some ei) (hz:ei.zero=some z) (hl:relL ρ l z.cells.toList) (ho:okCs l=true) (hs:lenC l=ei.size)
  (e:zob ei.size l x h n k=rr):Val P (Builtin.clear_ ats tt #[rx]) ρ h n w k rr:=by
 cases x<;>try exact absurd e.symm hne
 case nils=>
  simp only [rel] at hx; subst hx
  refine .same hi e (rv:=.tuple #[]) ?_ (by simp only [rel])
  simp only [Builtin.clear_,h0]
  simp [zac ht]
 case sl b o m c ex=>
  simp only [rel] at hx
  obtain ⟨r,base,f,c',hρ,rfl,hle,hcc,_,hf,_⟩:=hx
  simp only [zob] at e
  cases hb:Nat.beq m 0 with
  | true=>
   rw [hb] at e
   have:=Nat.eq_of_beq_eq_true hb; subst this
   refine .same hi e (rv:=.tuple #[]) ?_ (by simp only [rel])
   simp only [Builtin.clear_,h0]
   simp [zac ht]
  | false=>
   rw [hb] at e
   have hm0:m≠0:=fun h=>by subst h; cases hb
   obtain ⟨hsm,e⟩:=zab (show br _ _ RR.fail=rr from e) hne
   rw [Nat.ble_eq] at hsm
   rw [zam] at e
   have hf':f=base + o:=by
    rcases hf with hf | ⟨_,h1,_⟩
    ·exact hf
    ·omega
   subst hf'
   have hro:=zfr (e:=0) (c:=m) hl ho hs (by omega)
   obtain ⟨cs,et',fz,k1,_,k3⟩:=zbd hro
   have hcs:cs=Builtin.zeroCells z.cells m:=by
    have hzs:z.cells.size=ei.size:=by rw [← hs,zbz (zal hl) hl]; simp
    cases k1
    unfold Builtin.zeroCells
    rw [hzs]
   have hsz:(Builtin.zeroCells z.cells m).size=m * ei.size:=by
    have hzs:z.cells.size=ei.size:=by rw [← hs,zbz (zal hl) hl]; simp
    simp [Builtin.zeroCells,hzs]
   have hcr:=zew (ρ:=ρ) (t:=zfw l ei.size m) (c:=Builtin.zeroCells z.cells m) (m * ei.size) 0 0 (by omega) (fun j hj=>by
    obtain ⟨v,g4,g5,g6,_⟩:=k3 j hj
    rw [hcs] at g4
    refine ⟨v,g4,?_,?_⟩
    ·rw [Nat.zero_add]; exact g5
    ·rw [Nat.zero_add]; exact g6)
   obtain ⟨q1,q2⟩:=hcr
   have hex:(Builtin.zeroCells z.cells m).extract 0 (0 + m * ei.size)=Builtin.zeroCells z.cells m:=by
    rw [Nat.zero_add,← hsz]; exact Array.extract_size
   rw [hex] at q1
   obtain ⟨h',w',g1,g2,g3⟩:=zx6 (P:=P) hi hne hρ q1 q2 e
   refine ⟨_,_,_,ρ,w',.tuple #[],g1,?_,g3,by simp only [rel]⟩
   simp only [Builtin.clear_,h0]
   simp [zac ht,zbj hin hz,g2]
end
end
end
end Go.VE
