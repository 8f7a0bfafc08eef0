/- The evaluator, part 8: definitions and their laws, over any program. No condition. -/
import Derived.Laws.Append
import Derived.Test.YtjpelmgihpmohaaGreatDoorVE7
set_option linter.all false
namespace Go.VE
noncomputable section
open Go
section
variable {P:Program} {ρ:Mp} {h:H} {n:Nat} {w:World} {k:K} {rr:RR}
theorem zi1 {size m1 m2:Nat} {s1 s2:Seg} {c1 c2 row:Array Value} {o:AO} {e:TypeId} {g:Nat × Nat} {fz:Nat × Nat} {base:Nat} (h1:zim ρ size m1 s1 c1) (h2:zim ρ size m2 s2 c2) (ho:zdm size s1 s2=some o) (hf:fitO o=true)
  (hget1:∀ j v,c1[j]?=some v→row[base + j]?=some v) (hget2:∀ j v,c2[j]?=some v→row[base + (c1.size + j)]?=some v) (hg:size≠0→g=(size,row.size)) (hfz:fzOk fz row.size):
  relO ρ g o (some (.cells row e fz)) base:=by
 obtain ⟨z1,g1⟩:=h1
 obtain ⟨z2,g2⟩:=h2
 cases s1 with
 | vs q1 i1 t1=>
  obtain ⟨e1,g1⟩:=g1
  cases s2 with
  | vs q2 i2 t2=>
   obtain ⟨e2,g2⟩:=g2
   simp only [zdm] at ho
   cases ho
   have hfit:q1 + q2≤140737488355328:=by simpa [fitO] using hf
   refine ⟨⟨hg,hfz⟩,hfit,fun j hj=>?_⟩
   rw [ziy q2 j (by unfold top; omega)]
   by_cases hj2:q1≤j∧j < q1 + q2
   ·rw [if_pos hj2]
    obtain ⟨u,k1,k2,k3⟩:=g2 (j - q1) (by omega)
    have k4:=hget2 _ _ k1
    rw [show base + (c1.size + (j - q1))=base + j by omega] at k4
    exact ⟨u,k4,k2,k3,hfz.at_ (getElem?_lt k4)⟩
   ·rw [if_neg hj2]
    have hj1:j < q1:=by omega
    obtain ⟨u,k1,k2,k3⟩:=g1 j hj1
    have e3:zag (br (Nat.beq i1 0) t1 (zio .nil q1 i1 t1 0)) j=zag t1 (i1 + j):=by
     rw [zay]
     by_cases h0:Nat.beq i1 0=true
     ·rw [if_pos h0]; rw [Nat.beq_eq] at h0; subst h0; rw [Nat.zero_add]
     ·rw [if_neg h0,ziy q1 j (by unfold top; omega),if_pos (by omega),Nat.sub_zero]
    rw [e3]
    have k4:=hget1 _ _ k1
    exact ⟨u,k4,k2,k3,hfz.at_ (getElem?_lt k4)⟩
  | bs q2 x2=>
   obtain ⟨e2,e3,l2,p2,g2⟩:=g2
   simp only [zdm] at ho
   obtain ⟨h0,ho⟩:=za3 ho
   rw [Nat.beq_eq] at h0
   cases ho
   have hc1:c1.size=0:=by omega
   refine ⟨⟨by rw [hg (by omega),e2],hfz⟩,by simpa [fitO] using hf,l2,p2,fun j hj=>?_⟩
   have k4:=hget2 _ _ (g2 j hj)
   rw [hc1,Nat.zero_add] at k4
   exact ⟨k4,hfz.at_ (getElem?_lt k4)⟩
 | bs q1 x1=>
  obtain ⟨e1,e1',l1,p1,g1⟩:=g1
  cases s2 with
  | vs q2 i2 t2=>
   obtain ⟨e2,g2⟩:=g2
   simp only [zdm] at ho
   obtain ⟨h0,ho⟩:=za3 ho
   rw [Nat.beq_eq] at h0
   cases ho
   exact ⟨⟨by rw [hg (by omega),e1],hfz⟩,by simpa [fitO] using hf,l1,p1,fun j hj=>⟨hget1 _ _ (g1 j hj),hfz.at_ (getElem?_lt (hget1 _ _ (g1 j hj)))⟩⟩
  | bs q2 x2=>
   obtain ⟨e2,e2',l2,p2,g2⟩:=g2
   simp only [zdm] at ho
   cases ho
   refine ⟨⟨by rw [hg (by omega),e1],hfz⟩,by simpa [fitO] using hf,l1 ++ l2,zfp p1 p2,fun j hj=>?_⟩
   have key:row[base + j]?=some (.int .u8 (((l1 ++ l2)[j]'hj).toNat:Int)):=by
    by_cases hj1:j < l1.length
    ·rw [List.getElem_append_left hj1]; exact hget1 _ _ (g1 j hj1)
    ·have hj':j < l1.length + l2.length:=by simpa using hj
     rw [List.getElem_append_right (by omega)]
     have hl:=p1.1
     have hcs:c1.size=l1.length:=by rw [z1,e1,hl,e1',Nat.mul_one]
     have:=hget2 _ _ (g2 (j - l1.length) (by omega))
     rwa [show base + (c1.size + (j - l1.length))=base + j by omega] at this
   exact ⟨key,hfz.at_ (getElem?_lt key)⟩
theorem zp2 {c1 c2 c3:Array Value} {j:Nat} {v:Value} (hv:c1[j]?=some v):(c1 ++ c2 ++ c3)[0 + j]?=some v:=by
 have:=getElem?_lt hv
 rw [Nat.zero_add,Array.getElem?_append_left (by simp; omega),Array.getElem?_append_left this]; exact hv
theorem zp3 {c1 c2 c3:Array Value} {j:Nat} {v:Value} (hv:c2[j]?=some v):(c1 ++ c2 ++ c3)[0 + (c1.size + j)]?=some v:=by
 have:=getElem?_lt hv
 rw [Nat.zero_add,Array.getElem?_append_left (by simp; omega),Array.getElem?_append_right (by omega)]
 rw [show c1.size + j - c1.size=j by omega]; exact hv
section
variable {st xt et tt:TypeId} {ei:TypeInfo} {ry:Value} {a:Nat}
structure AppN (P:Program) (st xt et:TypeId) (ei:TypeInfo):Prop where
 hs:P.underlying st=some (.slice et)
 hi:P.info? et=some ei
 t1:P.underlying xt=some .string∨∃ e',P.underlying xt=some (.slice e')
theorem zgh {b:Nat} {w':World}:(askRoom b).run P w'=.ok () w':=by
 unfold askRoom; split<;>rfl
theorem zr2 (hA:AppN P st xt et ei) {b:Addr} {len cap:Nat} {c:Array Value} {w':World} (hlen:(Builtin.lenOf ry).run P w=.ok a w) (hc:(Builtin.firstCells ei.size a ry).run P w=.ok c w) (hle:len + a≤cap)
  (hst:(storeCells (b.add (len * ei.size)) c.toList).run P w=.ok () w'):
  (Builtin.append_ #[st,xt] tt #[.slice (some b) len cap,ry]).run P w=.ok (.slice (some b) (len + a) cap) w':=by
 obtain ⟨hs,hin,hx⟩:=hA
 rcases hx with hx | ⟨e',hx⟩<;>
  simp [Builtin.append_,zac hs,zac hx,zaw hin,hlen,hle,hc,hst]
theorem append_nil (hA:AppN P st xt et ei) {c:Array Value} (hlen:(Builtin.lenOf ry).run P w=.ok 0 w) (hc:(Builtin.firstCells ei.size 0 ry).run P w=.ok c w):
  (Builtin.append_ #[st,xt] tt #[.slice none 0 0,ry]).run P w=.ok (.slice none 0 0) w:=by
 obtain ⟨hs,hin,hx⟩:=hA
 rcases hx with hx | ⟨e',hx⟩<;>
  simp [Builtin.append_,zac hs,zac hx,zaw hin,hlen,hc]
theorem zqz (hA:AppN P st xt et ei) {base:Option Addr} {len cap:Nat} {c1 c2:Array Value} {z:Value} (hlen:(Builtin.lenOf ry).run P w=.ok a w) (hlt:cap < len + a) (hb:(len + a) * ei.bytes≤140737488355328)
  (hsm:len + a < 140737488355328) (hz:ei.zero=some z)
  (h1:(Builtin.firstCells ei.size len (.slice base len cap)).run P w.drew=.ok c1 w.drew) (h2:(Builtin.firstCells ei.size a ry).run P w.drew=.ok c2 w.drew):
  (Builtin.append_ #[st,xt] tt #[.slice base len cap,ry]).run P w=.ok (.slice (some ⟨w.heap.size,0,none⟩) (len + a) (grownCap w (len + a) cap et))
   (w.drew.alloc (.cells (c1 ++ c2 ++ Builtin.zeroCells z.cells (grownCap w (len + a) cap et - (len + a))) et)):=by
 obtain ⟨hs,hin,hx⟩:=hA
 have hbig:¬ (281474976710656 < Builtin.nextslicecap (len + a) cap * ei.bytes):=by have:=growslice_fits hlt hb; omega
 have hnle:¬ (len + a≤cap):=by omega
 have h63:¬ (9223372036854775807 < ((len:Int) + (a:Int))):=by omega
 rcases hx with hx | ⟨e',hx⟩<;>
  simp [Builtin.append_,zac hs,zac hx,zaw hin,hlen,hnle,h63,zch hin,hbig,Question.forced,zgh,h1,h2,zbj hin hz,za9,grownCap]
structure Src (ρ:Mp) (w:World) (size:Nat) (C:World→Array Value→Prop) (a:Nat) (s:Seg):Prop where
 cells:∀ w':World,w'.heap=w.heap→∃ c,C w' c∧zim ρ size a s c
structure Way (P:Program) (w:World) (et:TypeId) (size by_:Nat) (z:Value) (s:Value→Sem Value) (C:World→Array Value→Prop) (a:Nat):Prop where
 nil:a=0→(s (.slice none 0 0)).run P w=.ok (.slice none 0 0) w
 inPlace:∀ (b:Addr) (len cap:Nat) (c:Array Value) (w':World),C w c→len + a≤cap→(storeCells (b.add (len * size)) c.toList).run P w=.ok () w'→
  (s (.slice (some b) len cap)).run P w=.ok (.slice (some b) (len + a) cap) w'
 out:∀ (base:Option Addr) (len cap:Nat) (c1 c2:Array Value),cap < len + a→(len + a) * by_≤140737488355328→len + a < 140737488355328→(Builtin.firstCells size len (.slice base len cap)).run P w.drew=.ok c1 w.drew→
  C w.drew c2→(s (.slice base len cap)).run P w=.ok (.slice (some ⟨w.heap.size,0,none⟩) (len + a) (grownCap w (len + a) cap et))
   (w.drew.alloc (.cells (c1 ++ c2 ++ Builtin.zeroCells z.cells (grownCap w (len + a) cap et - (len + a))) et))
theorem ziz {w:World} {need cap:Nat} {et:TypeId}:need≤grownCap w need cap et:=by
 unfold grownCap; simp only [Question.cut]; omega
theorem zde {z:Array Value} {m:Nat}:(Builtin.zeroCells z m).size=m * z.size:=by simp [Builtin.zeroCells]
theorem zpb {size:Nat}:zim ρ size 0 (.vs 0 0 .nil) #[]:=⟨by simp,by simp,fun j hj=>by omega⟩
theorem zmu {size m1 a:Nat} {s1 s2:Seg} {c1 c2:Array Value} {et:TypeId} {z:Value} {h2:H} {need nc:Nat} (hi:Inv ρ h2 n w) (hne:rr≠.fail) (hz:z.cells.size=size) (h1:zim ρ size m1 s1 c1) (hs2:zim ρ size a s2 c2)
  (hn:need=m1 + a) (hnc:need≤nc) (e:zgl need (zdm size s1 s2) h2 n k=rr):
  ∃ v h' n' σ,k v h' n'=rr∧Goes ρ h2 n w σ h' n' (w.drew.alloc (.cells (c1 ++ c2 ++ Builtin.zeroCells z.cells (nc - need)) et))∧rel σ v (.slice (some ⟨w.heap.size,0,none⟩) need nc):=by
 cases ho:zdm size s1 s2 with
 | none=>rw [ho] at e; exact absurd e.symm hne
 | some o=>
  rw [ho] at e
  simp only [zgl] at e
  have hi':Inv ρ h2 n w.drew:=hi.heap rfl
  have htot:(c1 ++ c2 ++ Builtin.zeroCells z.cells (nc - need)).size=nc * size:=by
   simp only [Array.size_append,zde,h1.1,hs2.1,hz]
   rw [← Nat.add_mul,← Nat.add_mul]; congr 1; omega
  obtain ⟨e1,g⟩:=zbp hi' hne (o:=.cells (c1 ++ c2 ++ Builtin.zeroCells z.cells (nc - need)) et) (y:=(size,nc * size)) e (fun hf=>
   zi1 h1 hs2 ho hf (fun j v hv=>zp2 hv) (fun j v hv=>zp3 hv) (fun _=>by rw [htot]) (.inl rfl))
  refine ⟨_,_,_,_,e1,(Goes.heap hi (v:=w.drew) rfl).trans g,?_⟩
  simp only [rel]
  refine ⟨w.heap.size,0,0,nc,Mp.ext_same _ _ _ _,rfl,Nat.le_refl _,hnc,(fun h=>by cases h),.inl rfl,fun _=>.inr ?_⟩
  rw [Mp.ext_sameG]; simp
theorem zj9 {f:Value→Sem Value} {C:World→Array Value→Prop} (hi:Inv ρ h n w) (hne:rr≠.fail) {z:Value} (hzs:z.cells.size=ei.size) {x:AV} {rx:Value} {s:Seg} (hx:rel ρ x rx) (hsrc:Src ρ w ei.size C a s)
  (hw:Way P w et ei.size ei.bytes z f C a) (e:zev ei.size ei.bytes x a s h n k=rr):Val P (f rx) ρ h n w k rr:=by
 cases x<;>try exact absurd e.symm hne
 case nils=>
  simp only [rel] at hx; subst hx
  simp only [zev,zay] at e
  by_cases h0:Nat.beq a 0=true
  ·rw [if_pos h0] at e
   rw [Nat.beq_eq] at h0
   exact .same hi e (hw.nil h0) (by simp only [rel])
  ·rw [if_neg h0] at e
   rw [Nat.beq_eq] at h0
   rw [← zay,← zay] at e
   obtain ⟨h1,e1⟩:=zab e hne
   obtain ⟨h2,e2⟩:=zab e1 hne
   rw [Nat.blt_eq] at h1; rw [Nat.ble_eq] at h2
   obtain ⟨c2,r2,s2⟩:=hsrc.cells w.drew rfl
   have hnc:=ziz (w:=w) (need:=0 + a) (cap:=0) (et:=et)
   obtain ⟨v,h',n',σ,e3,g,hr⟩:=zmu (need:=0 + a) (et:=et) hi hne hzs zpb s2 (by omega) hnc (by rw [Nat.zero_add]; exact e2)
   exact ⟨v,h',n',σ,_,_,e3,hw.out none 0 0 #[] c2 (by omega) (by rw [Nat.zero_add]; exact h2) (by omega) (by simp [Builtin.firstCells]) r2,g,hr⟩
 case sl b off len cap ex=>
  have hx0:=hx
  simp only [rel] at hx
  obtain ⟨r,o,f',c,hρ,rfl,g1,g2,g3,g4,g5⟩:=hx
  obtain ⟨h1,e1⟩:=zab e hne
  obtain ⟨h2,e2⟩:=zab e1 hne
  rw [Nat.blt_eq] at h1; rw [Nat.ble_eq] at h2
  rw [zay] at e2
  by_cases h3:Nat.ble (len + a) cap=true
  ·rw [if_pos h3] at e2
   rw [Nat.ble_eq] at h3
   obtain ⟨h',e3,e4⟩:=zxp e2 hne
   obtain ⟨c2,r2,s2⟩:=hsrc.cells w rfl
   have hrel:rel ρ (.sl b off (len + a) cap ex) (.slice (some ⟨r,f',none⟩) (len + a) c):=by
    simp only [rel]; exact ⟨r,o,f',c,hρ,rfl,h3,g2,g3,g4,g5⟩
   have key:∃ w',(storeCells (Addr.add ⟨r,f',none⟩ (len * ei.size)) c2.toList).run P w=.ok () w'∧Goes ρ h n w ρ h' n w':=by
    rw [zcq]
    rcases g4 with g4 | ⟨g6,g7,g8⟩
    ·rcases ztd (P:=P) hi hρ e3 s2 with ⟨k1,k2⟩ | ⟨w',k1,k2⟩
     ·subst k2
      have:c2.toList=[]:=List.eq_nil_of_length_eq_zero (by simpa using k1)
      rw [this]
      exact ⟨w,by simp [storeCells],Goes.refl hi⟩
     ·refine ⟨w',?_,k2⟩
      rw [g4,Nat.add_assoc]; exact k1
    ·have ha:a=0:=by omega
     subst ha
     have hc0:c2.size=0:=by rw [s2.1]; simp
     have:c2.toList=[]:=List.eq_nil_of_length_eq_zero (by simpa using hc0)
     rw [this]
     have hh:h'=h:=by
      cases s with
      | vs q i t=>
       have:=s2.2.1
       simp only [ze9,zay] at e3
       rw [if_pos (by rw [Nat.beq_eq]; omega)] at e3
       exact (Option.some.inj e3).symm
      | bs q x=>
       have:=s2.2.2.1
       simp only [ze9,zay] at e3
       rw [if_pos (by rw [Nat.beq_eq]; omega)] at e3
       exact (Option.some.inj e3).symm
     subst hh
     exact ⟨w,by simp [storeCells],Goes.refl hi⟩
   obtain ⟨w',k1,k2⟩:=key
   exact ⟨_,_,_,_,w',_,e4,hw.inPlace _ _ _ c2 w' r2 (by omega) k1,k2,hrel⟩
  ·rw [if_neg h3] at e2
   rw [Nat.ble_eq] at h3
   obtain ⟨h4,e3⟩:=zab e2 hne
   have hbt:b < top:=by have:=hi.dom b (by rw [hρ]; simp); have:=hi.lim; unfold top; omega
   have hkill:Goes ρ h n w ρ (br ex h (zey h b)) n w:=by
    cases ex
    ·exact hi.kill hbt
    ·exact Goes.refl hi
   cases hold:zcz h ei.size len (.sl b off len cap ex) with
   | none=>rw [hold] at e3; exact absurd e3.symm hne
   | some old=>
    rw [hold] at e3
    simp only [zy3] at e3
    by_cases hc:c < len + a
    ·
     obtain ⟨c2,r2,s2⟩:=hsrc.cells w.drew rfl
     obtain ⟨c1,r1,s1⟩:=zdl (P:=P) (hi.heap (v:=w.drew) rfl) hx0 hold (fun b' o' l' c' ex' e=>by cases e; exact Nat.le_refl _) (fun _ _ e=>by cases e)
     obtain ⟨v,h',n',σ,e4,g,hr⟩:=zmu (et:=et) hkill.inv hne hzs ⟨s1.1,s1.2⟩ s2 rfl (ziz (cap:=c)) e3
     exact ⟨v,h',n',σ,_,_,e4,hw.out (some ⟨r,f',none⟩) len c c1 c2 hc h2 h1 r1 r2,hkill.trans g,hr⟩
    ·
     have hex:ex=false:=by
      cases ex
      ·rfl
      ·have:=g3 rfl; omega
     subst hex
     simp only [zbe] at h4 e3
     obtain ⟨hkb,h4⟩:KG≤b∧zgm ei.size (getO h b)=true:=by
      rw [zay] at h4
      split at h4
      ·rename_i g; rw [Nat.ble_eq] at g; exact ⟨g,h4⟩
      ·cases h4
     have hg1:=zxn hi hρ h4
     have hf':f'=o + off:=by rcases g4 with g | ⟨_,g6,g7⟩<;>omega
     have hsp:f' + c * ei.size=(ρ.g b).2:=by
      rcases g5 rfl with g | g
      ·omega
      ·rw [hg1] at g; exact g
     obtain ⟨c2,r2,s2⟩:=hsrc.cells w rfl
     obtain ⟨c1,r1,s1⟩:=zdl (P:=P) hi hx0 hold (fun b' o' l' c' ex' e=>by cases e; exact Nat.le_refl _) (fun _ _ e=>by cases e)
     cases hob:getO h b with
     | none=>rw [hob] at h4; cases h4
     | some ob=>
      obtain ⟨r',base,q1,q2⟩:=hi.obj b ob hob
      rw [hρ] at q1; cases q1
      have hcells:∃ c0 et' fz,w.heap[r]?=some (.cells c0 et' fz)∧(ρ.g b)=(ei.size,c0.size)∧(fzOk fz c0.size):=by
       rw [hob] at h4
       cases ob with
       | map _=>cases h4
       | var _ _ _=>cases h4
       | rowb ty q n' y=>
        obtain ⟨q2',c0,fz,p1,_⟩:=zhm q2
        rw [p1] at q2'
        have p2:=zbl q2'
        simp only [zgm,Nat.beq_eq] at h4
        exact ⟨c0,ty,fz,p1,by rw [p2.1,h4],p2.2⟩
       | cells m es t=>
        obtain ⟨c0,et',fz,p1,_⟩:=zbd q2
        rw [p1] at q2
        have p2:=zbl q2
        simp only [zgm,zay] at h4
        by_cases h5:Nat.beq es ei.size=true
        ·rw [if_pos h5] at h4
         rw [Nat.beq_eq] at h5; rw [Nat.blt_eq] at h4
         exact ⟨c0,et',fz,p1,by rw [p2.1 (by omega),h5],p2.2⟩
        ·rw [if_neg h5] at h4; cases h4
       | bytes m y=>
        obtain ⟨c0,et',fz,l,p1,_⟩:=zcg q2
        rw [p1] at q2
        have p2:=zbl q2
        simp only [zgm,Nat.beq_eq] at h4
        exact ⟨c0,et',fz,p1,by rw [p2.1,h4],p2.2⟩
      obtain ⟨c0,et',fz,p1,p2,p3⟩:=hcells
      have hsz0:f' + c * ei.size=c0.size:=by rw [hsp,p2]
      have hmul:len * ei.size + a * ei.size≤c * ei.size:=by rw [← Nat.add_mul]; exact Nat.mul_le_mul_right _ (by omega)
      have hc1:c1=c0.extract f' (f' + len * ei.size):=by
       have r3:(Builtin.firstCells ei.size len (.slice (some ⟨r,f',none⟩) len c)).run P w=.ok (c0.extract f' (f' + len * ei.size)) w:=by
        simp only [Builtin.firstCells]; exact zcv p1 (by omega)
       rw [r1] at r3; exact (Result.ok.inj r3).1
      have hc2l:c2.toList.length=a * ei.size:=by simpa using s2.1
      have hcv:∀ v ∈ c2.toList,zn9 v:=by
       intro v hv
       obtain ⟨j,hj,rfl⟩:=List.mem_iff_getElem.1 hv
       have hj':j < c2.size:=by simpa using hj
       have hget:c2[j]?=some (c2.toList[j]):=by rw [← Array.getElem?_toList,List.getElem?_eq_getElem hj]
       cases s with
       | vs q i t=>
        obtain ⟨u,k1,k2,k3⟩:=s2.2.2 j (by have:=s2.2.1; have:=s2.1; omega)
        rw [hget] at k1; rw [Option.some.inj k1]; exact ziw k3 k2
       | bs q y=>
        obtain ⟨z1,z2,l,z3,z4⟩:=s2.2
        have k1:=z4 j (by rw [z3.1,z2]; have:=s2.1; rw [z1,Nat.mul_one] at this; omega)
        rw [hget] at k1; rw [Option.some.inj k1]; trivial
      obtain ⟨w',r3,r4,r5,r6,r7⟩:=zbk (P:=P) c2.toList (o:=f' + len * ei.size) (i:=0) p1 (by omega) (fun j hj1 hj2=>p3.at_ (by omega)) hcv
      cases hj:zdm ei.size old s with
      | none=>rw [hj] at e3; exact absurd e3.symm hne
      | some ao=>
       rw [hj] at e3
       simp only [zgl] at e3
       obtain ⟨k1,k2,k3⟩:=zdy e3 hne
       have hro:relO ρ (ei.size,c0.size) ao w'.heap[r]? f':=by
        rw [r4]
        have hb:f' + len * ei.size + c2.toList.length≤c0.size:=by omega
        refine zi1 ⟨s1.1,s1.2⟩ s2 hj k2 (fun j v hv=>?_) (fun j v hv=>?_) (fun _=>by rw [zau]) (by rw [zau]; exact p3)
        ·have hjl:=getElem?_lt hv
         rw [s1.1] at hjl
         rw [zbq _ _ _ _ (by omega),if_neg (by omega),← hv,hc1,Array.getElem?_extract,if_pos (by omega)]
        ·have hjl:=getElem?_lt hv
         have hll:c2.toList.length=c2.size:=by simp
         rw [zbq _ _ _ _ (by omega),s1.1,if_pos (by omega),← hv,Array.getElem?_toList]
         congr 1; omega
       have hgo:=hi.regrow k1 hob hρ hkb hro r5 r6 r7
       refine ⟨_,_,_,_,w',.slice (some ⟨r,f',none⟩) (len + a) c,k3,hw.inPlace _ _ _ c2 w' r2 (by omega) (by rw [zcq]; exact r3),hgo,?_⟩
       simp only [rel]
       refine ⟨r,f',f',c,Mp.ext_same _ _ _ _,rfl,Nat.le_refl _,by omega,(fun h=>by cases h),.inl rfl,fun _=>.inr ?_⟩
       rw [Mp.ext_sameG]; exact hsz0
end
end
end
end Go.VE
