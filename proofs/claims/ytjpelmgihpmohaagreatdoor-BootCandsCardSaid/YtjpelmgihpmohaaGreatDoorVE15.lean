/- The evaluator, part 15: definitions and their laws, over any program. No condition. -/
import Derived.Lib.Builder
import Derived.Laws.BytesString
import Derived.Test.YtjpelmgihpmohaaGreatDoorVE14
set_option linter.all false
namespace Go.VE
noncomputable section
open Go
section
variable {P:Program} {tb:Tb} {o:Oper}
theorem z0g {s d t:TypeId} {j:TypeInfo} {ρ:Mp} {h:H} {n:Nat} {w:World} {k:K} {rr:RR} {x:AV} {rx:Value} (hi:Inv ρ h n w) (hne:rr≠.fail) (hx:rel ρ x rx) (hs:P.underlying s=some (.pointer t)) (hd:P.underlying d=some .unsafePointer) (ht:P.info? t=some j) (hz:j.size≠0)
  (e:p2uA x h n k=rr):Val P (convert s d rx) ρ h n w k rr:=by
 cases x<;>try exact absurd e.symm hne
 case nilp=>
  have hx0:=hx
  simp only [rel] at hx; subst hx
  exact .same hi e (by simp [convert,zac hs,zac hd,Conv.unsafePointer]) hx0
 case ptr b off=>
  obtain ⟨r,o,hρ,rfl⟩:=zca hx
  simp only [p2uA] at e
  cases hb:getO h b with
  | none=>rw [hb] at e; exact absurd e.symm hne
  | some ao=>
   rw [hb] at e
   cases ao<;>try exact absurd e.symm hne
   case var ty m tr=>
   simp only [p2uO] at e
   obtain ⟨h1,e⟩:=zab e hne
   rw [Nat.blt_eq] at h1
   obtain ⟨r',base,g1,g2⟩:=hi.obj b _ hb
   rw [hρ] at g1; cases g1
   obtain ⟨hb0,_,c,fz,q1,q2⟩:=zhn g2
   subst hb0
   have hsh:w.shape? r=some (ty,c.size):=by simp only [World.shape?,q1]
   refine .same hi e (Lib.run_to_unsafe w _ hs hd ht hz hsh (by show 0 + off < c.size; omega)) hx
theorem z0m {s d u:TypeId} {j:TypeInfo} {ρ:Mp} {h:H} {n:Nat} {w:World} {k:K} {rr:RR} {x:AV} {rx:Value} (hi:Inv ρ h n w) (hne:rr≠.fail) (hx:rel ρ x rx) (hs:P.underlying s=some .unsafePointer) (hd:P.underlying d=some (.pointer u)) (hu:P.info? u=some j) (hz:j.size≠0)
  (e:u2pA u j.size x h n k=rr):Val P (convert s d rx) ρ h n w k rr:=by
 cases x<;>try exact absurd e.symm hne
 case nilp=>
  have hx0:=hx
  simp only [rel] at hx; subst hx
  exact .same hi e (by simp [convert,zac hs,zac hd,Conv.unsafePointer]) hx0
 case ptr b off=>
  simp only [u2pA] at e
  obtain ⟨h0,e2⟩:=zab e hne
  clear e
  have h0:=Nat.eq_of_beq_eq_true h0
  obtain ⟨r,o,hρ,rfl⟩:=zca hx
  rw [h0] at hx ⊢
  cases hb:getO h b with
  | none=>rw [hb] at e2; exact absurd e2.symm hne
  | some ao=>
   rw [hb] at e2
   cases ao<;>try exact absurd e2.symm hne
   case var ty m tr=>
   simp only [u2pO] at e2
   obtain ⟨h1,e3⟩:=zab e2 hne
   obtain ⟨h2,e4⟩:=zab e3 hne
   rw [Nat.beq_eq] at h1 h2; subst h1; subst h2
   obtain ⟨r',base,g1,g2⟩:=hi.obj b _ hb
   rw [hρ] at g1; cases g1
   obtain ⟨hb0,_,c,fz,q1,q2⟩:=zhn g2
   subst hb0
   have hsh:w.shape? r=some (ty,c.size):=by simp only [World.shape?,q1]
   have hc:P.cellsOf ty=j.size:=by unfold Program.cellsOf; rw [hu]; rfl
   have hlies:liesAt P P.depth ty (c.size / P.cellsOf ty) (0 + 0) ty 1=true:=by
    rw [hc,q2,Nat.div_self (by omega)]
    have hdp:P.depth=(2 * (P.types.size + Made.depth) + 1) + 1:=rfl
    rw [hdp]
    simp only [liesAt,Bool.or_eq_true]
    left
    rw [hdp]
    simp [rowAt,hc,hz,sameLayout]
   refine   .same hi e4 (Lib.run_from_unsafe w _ hs hd hu hsh hlies) hx
theorem zrg {s d:TypeId} {x:Operand} (hT:TbOk P tb) (hop:o.op=.convert s d x) (hns:∀ et,und tb s≠.slice et):OpOk P tb o:=by
 intro ds ls e a ρ h n w call k rr Q hc hf hi hr hne
 rw [hop] at hr
 simp only [zbb] at hr
 have hx:x ∈ o.op.operands:=by rw [hop]; simp [Op.operands]
 have bad:oBad call ls e h n k=rr→o.wp P a w (zel ρ h n w k rr a o.dst) Q:=fun h0=>absurd h0.symm hne
 cases hs:und tb s with
 | int ks=>
  cases hd:und tb d with
  | int kd=>
   rw [hs,hd] at hr
   obtain ⟨u,h1,hk⟩:=za7 hr hne
   exact za5 (by simp only [execOp,hop]) (zu6 hi hne (hf x hx u h1) (hT.und hd (by simp)).1 (hT.und hs (by simp)).1 hk)
  | _=>rw [hs,hd] at hr; exact bad hr
 | string=>
  cases hd:und tb d with
  | string=>
   rw [hs,hd] at hr
   obtain ⟨u,h1,hk⟩:=za7 hr hne
   have hv:=hf x hx u h1
   have hk':strA (u ls e) h n k=rr:=hk
   generalize u ls e=v at hv hk'
   cases v<;>try exact absurd hk'.symm hne
   have hv':=hv
   simp only [rel] at hv'
   obtain ⟨b,e1,_⟩:=hv'
   refine za5 (s:=convert s d (a.eval x)) (by simp only [execOp,hop]) (.same hi hk' (rv:=a.eval x) ?_ hv)
   rw [e1]
   simp only [convert,Sem.run_bind,zac (hT.und hs (by simp)).1,zac (hT.und hd (by simp)).1,Result.andThen_ok,Sem.run_pure]
  | slice et=>
   rw [hs,hd] at hr
   simp only at hr
   cases h8:isU8 tb et with
   | false=>rw [h8] at hr; exact bad hr
   | true=>
    rw [h8,cond_true] at hr
    obtain ⟨u,h1,hk⟩:=za7 hr hne
    exact za5 (by simp only [execOp,hop]) (zpg hi hne (hf x hx u h1) (hT.und hs (by simp)).1 (hT.und hd (by simp)).1 (hT.und (zor h8) (by simp)).1 hk)
  | _=>rw [hs,hd] at hr; exact bad hr
 | slice et=>exact absurd hs (hns et)
 | pointer t=>
  cases hd:und tb d with
  | unsafePointer=>
   rw [hs,hd] at hr
   simp only at hr
   cases hz:Nat.blt 0 (size tb t) with
   | false=>rw [hz] at hr; exact bad hr
   | true=>
    rw [hz,cond_true] at hr
    rw [Nat.blt_eq] at hz
    obtain ⟨u,h1,hk⟩:=za7 hr hne
    cases hg:tb.types.get (t + 1) with
    | none=>unfold Go.VE.size at hz; rw [hg] at hz; cases hz
    | some i=>
     have hsz:size tb t=i.size:=by unfold Go.VE.size; rw [hg]
     exact za5 (by simp only [execOp,hop]) (z0g hi hne (hf x hx u h1) (hT.und hs (by simp)).1 (hT.und hd (by simp)).1 (hT.info _ _ hg) (by omega) hk)
  | _=>rw [hs,hd] at hr; exact bad hr
 | unsafePointer=>
  cases hd:und tb d with
  | pointer t=>
   rw [hs,hd] at hr
   simp only at hr
   cases hz:Nat.blt 0 (size tb t) with
   | false=>rw [hz] at hr; exact bad hr
   | true=>
    rw [hz,cond_true] at hr
    rw [Nat.blt_eq] at hz
    obtain ⟨u,h1,hk⟩:=za7 hr hne
    cases hg:tb.types.get (t + 1) with
    | none=>unfold Go.VE.size at hz; rw [hg] at hz; cases hz
    | some i=>
     have hsz:size tb t=i.size:=by unfold Go.VE.size; rw [hg]
     exact za5 (by simp only [execOp,hop]) (z0m hi hne (hf x hx u h1) (hT.und hs (by simp)).1 (hT.und hd (by simp)).1 (hT.info _ _ hg) (by omega) (by rw [← hsz]; exact hk))
  | _=>rw [hs,hd] at hr; exact bad hr
 | _=>rw [hs] at hr; exact bad hr
end
end
end Go.VE
namespace Go.VE
noncomputable section
open Go
theorem zjy:∀ (l:List UInt8) (s:ByteArray),((l.map fun b=>(b.toNat:Int)).foldl (fun r n=>r.push (UInt8.ofNat n.toNat)) s).data.toList=s.data.toList ++ l
 | [],s=>by simp
 | b :: l,s=>by
  simp only [List.map_cons,List.foldl_cons]
  rw [zjy l]
  have:(s.push (UInt8.ofNat (b.toNat:Int).toNat)).data.toList=s.data.toList ++ [b]:=by
   simp [ByteArray.push]
  rw [this]; simp
section
variable {P:Program} {tb:Tb} {o:Oper}
theorem zpf {ρ:Mp} {h:H} {n:Nat} {w:World} {k:K} {rr:RR} (hi:Inv ρ h n w) (hne:rr≠.fail) {s d et:TypeId} {x:AV} {rx:Value} (hx:rel ρ x rx) (hs:P.underlying s=some (.slice et)) (he:P.underlying et=some (.int .u8)) (hd:P.underlying d=some .string)
  (e:zlm x h n k=rr):Val P (convert s d rx) ρ h n w k rr:=by
 cases x<;>try exact absurd e.symm hne
 case nils=>
  simp only [rel] at hx; subst hx
  refine .same hi e (rv:=.string .empty) ?_ (by simp only [rel]; exact ⟨_,rfl,rfl,rfl⟩)
  rw [run_convert_bytes_string w s d et _ _ _ hs he hd]; rfl
 case sl b off len cap ex=>
  have e1:zqp (zcz h 1 len (.sl b off len cap ex)) h n k=rr:=e
  cases hg:zcz h 1 len (.sl b off len cap ex) with
  | none=>rw [hg] at e1; exact absurd e1.symm hne
  | some sg=>
   rw [hg] at e1
   obtain ⟨c,c1,c2,c3⟩:=zdl hi hx hg (fun b' off' len' cap' ex' h=>by cases h; exact Nat.le_refl _) (fun q y h=>by cases h)
   have hx':=hx
   simp only [rel] at hx'
   obtain ⟨r,o',f,cc,_,rfl,_⟩:=hx'
   have hload:(loadCells ⟨r,f,none⟩ len).run P w=.ok c w:=by
    have:=c1
    simp only [Builtin.firstCells,Nat.mul_one] at this
    exact this
   have fin:∀ (l:List UInt8) (m y:Nat),c=((l.map fun b=>(b.toNat:Int)).map (Value.int .u8)).toArray→zb6 l m y→k (.str m y) h n=rr→Val P (convert s d (.slice (some ⟨r,f,none⟩) len cc)) ρ h n w k rr:=by
    intro l m y hc hp hk
    refine .same hi hk (rv:=.string _) ((run_convert_bytes_string w s d et _ _ _ hs he hd).trans (run_bytesToString w _ _ _ _ (by rw [hload,hc]))) ?_
    simp only [rel]
    refine ⟨_,rfl,?_⟩
    rw [zjy]
    exact hp
   cases sg with
   | vs q i t=>
    obtain ⟨e2,e3⟩:=zab (show br (Nat.beq q 0) (k (.str 0 0) h n) .fail=rr from e1) hne
    have hq:=zak e2
    obtain ⟨c4,_⟩:=c3
    have hlen:c.size=0:=by omega
    exact fin [] 0 0 (by simpa using Array.eq_empty_of_size_eq_zero hlen) zni e3
   | bs q y=>
    have e2:(frc y fun y=>k (.str q y) h n)=rr:=e1
    rw [zam] at e2
    obtain ⟨_,hq,l,hp,hl⟩:=c3
    refine fin l q y ?_ hp e2
    apply Array.ext'
    apply List.ext_getElem?
    intro j
    simp only [List.map_map]
    rw [Array.getElem?_toList,List.getElem?_map]
    have hlen:=hp.1
    rcases Nat.lt_or_ge j l.length with hj | hj
    ·rw [hl j hj,List.getElem?_eq_getElem hj]; rfl
    ·rw [List.getElem?_eq_none hj,Array.getElem?_eq_none (by omega)]; rfl
theorem zw9 {ρ:Mp} {h:H} {n:Nat} {w:World} {k:K} {rr:RR} {s d et:TypeId} {x:AV} {rx:Value} (hi:Inv ρ h n w) (hne:rr≠.fail) (hx:rel ρ x rx) (hs:P.underlying s=some (.slice et)) (hsd:s=d) (he:P.underlying et=some (.int .u8)) (e:zy8 x h n k=rr):Val P (convert s d rx) ρ h n w k rr:=by
 cases x<;>try exact absurd e.symm hne
 rename_i b off len cap ex
 subst hsd
 have hx0:=hx
 simp only [rel] at hx
 obtain ⟨r,o,f,c,h1,rfl,_⟩:=hx
 simp only [zy8] at e
 cases hb:getO h b with
 | none=>rw [hb] at e; exact absurd e.symm hne
 | some ao=>
  rw [hb] at e
  cases ao with
  | cells _ _ _=>exact absurd e.symm hne
  | map _=>exact absurd e.symm hne
  | var _ _ _=>exact absurd e.symm hne
  | rowb _ _ _ _=>exact absurd e.symm hne
  | bytes m y=>
   simp only [z1m] at e
   obtain ⟨hk,e⟩:=zab e hne
   rw [Nat.ble_eq] at hk
   obtain ⟨r',base,g1,g2⟩:=hi.obj b _ hb
   rw [h1] at g1; cases g1
   obtain ⟨c0,et',fz,l,q1,q2,q3,q4⟩:=zcg g2
   rw [q1] at g2
   have hsp:=zbl g2
   have hrl:r < w.heap.size:=hi.rng _ _ _ h1
   let fz':Nat × Nat:=if fz.1 == fz.2 then (c0.size,c0.size + 1) else (min fz.1 c0.size,max fz.2 (c0.size + 1))
   have hfz:fzOk fz' c0.size:=by
    rcases hsp.2 with h2 | h2
    ·simp only [fz',h2,beq_self_eq_true,if_true]; exact .inr (Nat.le_refl _)
    ·simp only [fz']
     split
     ·exact .inr (Nat.le_refl _)
     ·exact .inr (by simp only; omega)
   let w':World:=w.freeze ⟨r,c0.size,none⟩ 1
   have hw':w'.heap=w.heap.modify r fun
     | .cells c elem (lo,hi)=>.cells c elem (if lo == hi then (c0.size,c0.size + 1) else (min lo c0.size,max hi (c0.size + 1)))
     | o=>o:=rfl
   have hr':w'.heap[r]?=some (.cells c0 et' fz'):=by
    rw [hw',Array.getElem?_modify,if_pos rfl,q1]; rfl
   have hq:∀ q,q≠r→w'.heap[q]?=w.heap[q]?:=fun q hq=>by
    rw [hw',Array.getElem?_modify,if_neg (fun e=>hq e.symm)]
   have hset:=hi.set (v:=w') (ao:=.bytes m y) hb h1 hk (by rw [hr']; exact ⟨⟨hsp.1,hfz⟩,q2,l,q3,fun i hi=>⟨(q4 i hi).1,hfz.at_ (getElem?_lt (q4 i hi).1)⟩⟩) hq (by rw [hw']; simp)
   have hinv:Goes ρ h n w ρ h n w':=⟨⟨fun c p hc=>by
     have hbt:b < top:=by have:=hi.dom b (by rw [h1]; simp); have:=hi.lim; unfold top; omega
     have h7:getO (setO h b (.bytes m y)) c=some p:=by
      rw [za8 hbt]
      split
      ·rename_i e; subst e; rw [hb] at hc; exact hc
      ·exact hc
     exact hset.inv.obj c p h7,hi.inj,hi.dom,hset.inv.rng,hi.lim,hi.st⟩,Mp.le_refl _,Nat.le_refl _,hset.size,hset.keep,fun q _ hl=>hl,hset.io⟩
   refine ⟨_,_,_,_,w',_,e,?_,hinv,hx0⟩
   have hsh:w.shape? r=some (et',c0.size):=by simp only [World.shape?,q1]
   simp only [convert,Sem.run_bind,zac hs,zac he,Result.andThen_ok,beq_self_eq_true,markStringish,run_shape,hsh,run_freeze,Sem.run_pure]
   rfl
theorem znb {s d:TypeId} {x:Operand} (hT:TbOk P tb) (hop:o.op=.convert s d x) (hns:∃ et,und tb s=.slice et):OpOk P tb o:=by
 intro ds ls e a ρ h n w call k rr Q hc hf hi hr hne
 obtain ⟨et,hs⟩:=hns
 rw [hop] at hr
 simp only [zbb] at hr
 have hx:x ∈ o.op.operands:=by rw [hop]; simp [Op.operands]
 cases hd:und tb d with
 | string=>
  rw [hs,hd] at hr
  simp only at hr
  cases h8:isU8 tb et with
  | false=>rw [h8] at hr; exact absurd hr.symm hne
  | true=>
   rw [h8,cond_true] at hr
   obtain ⟨u,h1,hk⟩:=za7 hr hne
   exact za5 (by simp only [execOp,hop]) (zpf hi hne (hf x hx u h1) (hT.und hs (by simp)).1 (hT.und (zor h8) (by simp)).1 (hT.und hd (by simp)).1 hk)
 | slice ed=>
  rw [hs,hd] at hr
  simp only at hr
  cases h8:s == d && isU8 tb ed with
  | false=>rw [h8] at hr; exact absurd hr.symm hne
  | true=>
   rw [h8,cond_true] at hr
   obtain ⟨h9,h8⟩:=Bool.and_eq_true_iff.1 h8
   have hsd:s=d:=by simpa using h9
   have hee:et=ed:=by rw [hsd,hd] at hs; cases hs; rfl
   obtain ⟨u,h1,hk⟩:=za7 hr hne
   exact za5 (by simp only [execOp,hop]) (zw9 hi hne (hf x hx u h1) (hT.und hs (by simp)).1 hsd (by rw [hee]; exact (hT.und (zor h8) (by simp)).1) hk)
 | _=>rw [hs,hd] at hr; exact absurd hr.symm hne
end
end
end Go.VE
namespace Go.VE
noncomputable section
open Go
theorem zg8 {want:Array (String × TypeId)}:∀ {l:List TypeInfo} {k u:Nat} {i:TypeInfo},k≤u→l[u - k]?=some i→memN u (zdb want l k)=implements want i
 | [],k,u,i,_,h=>by simp at h
 | j :: l,k,u,i,hk,h=>by
  have later:k + 1≤u→memN u (zdb want l (k + 1))=implements want i:=fun h1=>by
   refine zg8 h1 ?_
   rwa [show u - k=(u - (k + 1)) + 1 by omega,List.getElem?_cons_succ] at h
  have low:∀ (l:List TypeInfo) (k:Nat),u < k→memN u (zdb want l k)=false:=by
   intro l
   induction l with
   | nil=>intro k _; rfl
   | cons j l ih=>
    intro k hlt
    simp only [zdb]
    cases implements want j
    ·exact ih _ (by omega)
    ·rw [cond_true]
     unfold memN
     have:Nat.beq u k=false:=by
      cases hb:Nat.beq u k
      ·rfl
      ·have:=zak hb; omega
     rw [this]
     exact ih _ (by omega)
  simp only [zdb]
  by_cases e:u=k
  ·subst e
   rw [Nat.sub_self] at h
   cases h
   cases hi:implements want j with
   | true=>rw [cond_true]; unfold memN; rw [Nat.beq_refl]; rfl
   | false=>rw [cond_false]; exact low l _ (by omega)
  ·have hb:Nat.beq u k=false:=by
    cases hb:Nat.beq u k
    ·rfl
    ·exact absurd (zak hb) e
   cases implements want j with
   | true=>
    rw [cond_true]; unfold memN; rw [hb]
    exact later (by omega)
   | false=>rw [cond_false]; exact later (by omega)
theorem zm4 {want:Array (String × TypeId)} {i:TypeInfo} (h:implements want i=true):Instr.missingMethod want i.methods=none:=by
 unfold implements at h
 have:want.toList.filter (fun (p:String × TypeId)=>!i.methods.any fun m=>m.name == p.1 && m.sig == p.2)=[]:=by
  rw [List.filter_eq_nil_iff]
  intro p hp
  rw [← Array.all_toList,List.all_eq_true] at h
  have:=h p hp
  simp only at this
  simp [this]
 unfold Instr.missingMethod
 simp only
 rw [this]
 rfl
theorem zrc:∀ {l:List String},l≠[]→∃ m,Instr.least l=some m
 | [],h=>absurd rfl h
 | s :: l,_=>⟨_,rfl⟩
theorem zm5 {want:Array (String × TypeId)} {i:TypeInfo} (h:implements want i=false):∃ m,Instr.missingMethod want i.methods=some m:=by
 unfold implements at h
 have hne:((want.toList.filter (fun (p:String × TypeId)=>!i.methods.any fun m=>m.name == p.1 && m.sig == p.2)).map (·.1))≠[]:=by
  intro h0
  rw [List.map_eq_nil_iff,List.filter_eq_nil_iff] at h0
  have:(want.all fun (n,s)=>i.methods.any fun m=>m.name == n && m.sig == s)=true:=by
   rw [← Array.all_toList,List.all_eq_true]
   intro p hp
   have:=h0 p hp
   simpa using this
  rw [this] at h; cases h
 unfold Instr.missingMethod
 simp only
 generalize ((want.toList.filter (fun (p:String × TypeId)=>!i.methods.any fun m=>m.name == p.1 && m.sig == p.2)).map (·.1))=l at hne
 have hp:l.partition (·.contains (Char.ofNat 46))=(l.filter (·.contains (Char.ofNat 46)),l.filter (fun s=>!(s.contains (Char.ofNat 46)))):=by simp [List.partition_eq_filter_filter,Function.comp_def]
 rw [hp]
 simp only
 cases he:Instr.least (l.filter fun s=>!(s.contains (Char.ofNat 46))) with
 | some m=>exact ⟨m,rfl⟩
 | none=>
  have h1:l.filter (fun s=>!(s.contains (Char.ofNat 46)))=[]:=by
   cases hl:l.filter (fun s=>!(s.contains (Char.ofNat 46))) with
   | nil=>rfl
   | cons a b=>rw [hl] at he; cases he
  have h2:(l.filter (·.contains (Char.ofNat 46)))≠[]:=by
   intro h2
   cases l with
   | nil=>exact hne rfl
   | cons a b=>
    rw [List.filter_eq_nil_iff] at h1 h2
    have g1:=h1 a List.mem_cons_self
    have g2:=h2 a List.mem_cons_self
    simp at g1 g2
    exact absurd g1 (by simpa using g2)
  exact zrc (by simpa using h2)
section
variable {P:Program} {tb:Tb} {o:Oper}
theorem zv7 {x:Operand} {t t':TypeId} {want:Array (String × TypeId)} (hT:TbOk P tb) (hop:o.op=.typeAssert x t' t true) (hu:und tb t=.interface want) (hz:∀ i,tb.types.get (t + 1)=some i→i.zero=some .nilIface):OpOk P tb o:=by
 intro ds ls e a ρ h n w call k rr Q hc hf hi hr hne
 rw [hop] at hr
 simp only [zbb] at hr
 rw [hu] at hr
 obtain ⟨s,h1,hk⟩:=za7 hr hne
 have hv:=hf x (by rw [hop]; simp [Op.operands]) s h1
 have hk':zr4 (lenL tb.list) (zdb want tb.list 0) (s ls e) h n k=rr:=hk
 obtain ⟨g1,it,g2,g3⟩:=hT.und hu (by simp)
 have hzero:=zbj (P:=P) (w:=w) g3 (hz it g2)
 have rel2:∀ (v:AV) (rv:Value) (b:Bool),rel ρ v rv→rel ρ (two v b) (.tuple #[rv,.bool b]):=fun v rv b hv=>by
  unfold two
  simp only [rel]
  exact ⟨_,rfl,relL_cons.2 ⟨rv,[.bool b],rfl,hv,relL_cons.2 ⟨.bool b,[],rfl,zbr b,relL_nil.2 rfl⟩⟩⟩
 have hnil:rel ρ .nili .nilIface:=by simp only [rel]
 refine za5 (s:=Instr.typeAssert (a.eval x) t' t true) (by simp only [execOp,hop]) ?_
 generalize s ls e=v at hv hk'
 cases v<;>try exact absurd hk'.symm hne
 case nili=>
  simp only [rel] at hv
  rw [hv]
  refine .same hi hk' (rv:=.tuple #[.nilIface,.bool false]) ?_ (rel2 _ _ _ hnil)
  simp only [Instr.typeAssert,Sem.run_bind,zac g1,Result.andThen_ok,if_true,hzero,Sem.run_pure]
 case iface u v=>
  have hv':=hv
  simp only [rel] at hv'
  obtain ⟨rv,hre,_⟩:=hv'
  obtain ⟨hlt,hb⟩:=zab (show br (Nat.blt u (lenL tb.list)) (br (memN u (zdb want tb.list 0)) (k (two (.iface u v) true) h n) (k (two .nili false) h n)) .fail=rr from hk') hne
  rw [Nat.blt_eq,zfk] at hlt
  have hget:tb.list[u]?=some tb.list[u]:=List.getElem?_eq_getElem hlt
  have hinfo:=hT.info u tb.list[u] (by rw [← hT.list]; exact hget)
  have hmem:=zg8 (want:=want) (l:=tb.list) (k:=0) (u:=u) (i:=tb.list[u]) (Nat.zero_le _) (by rw [Nat.sub_zero]; exact hget)
  rw [hre]
  cases him:implements want tb.list[u] with
  | true=>
   rw [hmem,him] at hb
   rw [hre] at hv
   refine .same hi hb (rv:=.tuple #[.iface u rv,.bool true]) ?_ (rel2 _ _ _ hv)
   simp only [Instr.typeAssert,Sem.run_bind,zac g1,zch hinfo,Result.andThen_ok,zm4 him,if_true,Sem.run_pure]
  | false=>
   rw [hmem,him] at hb
   obtain ⟨m,hm⟩:=zm5 him
   refine .same hi hb (rv:=.tuple #[.nilIface,.bool false]) ?_ (rel2 _ _ _ hnil)
   simp only [Instr.typeAssert,Sem.run_bind,zac g1,zch hinfo,Result.andThen_ok,hm,if_true,hzero,Sem.run_pure]
end
end
end Go.VE
namespace Go.VE
noncomputable section
open Go
theorem zgd {ds:List (Option Nat)} {tb:Tb} {fs:Array Field}:∀ {l:List (Nat × Operand)} {ps:List (Nat × Nat × Sx)},zeq ds tb fs l=some ps→ps.length=l.length∧
  ∀ j (hj:j < ps.length) (hk:j < l.length),∃ f,fs[(l[j]'hk).1]?=some f∧(ps[j]'hj).1=f.offset∧(ps[j]'hj).2.1=size tb f.type∧lowS ds (l[j]'hk).2=some (ps[j]'hj).2.2
 | [],ps,h=>by cases h; exact ⟨rfl,fun j hj=>absurd hj (by simp)⟩
 | (i,x) :: l,ps,h=>by
  simp only [zeq] at h
  cases h1:nthL i fs.toList with
  | none=>rw [h1] at h; cases h
  | some f=>
   cases h2:lowS ds x with
   | none=>rw [h1,h2] at h; cases h
   | some s=>
    cases h3:zeq ds tb fs l with
    | none=>rw [h1,h2,h3] at h; cases h
    | some r=>
     rw [h1,h2,h3] at h; cases h
     obtain ⟨g1,g2⟩:=zgd h3
     refine ⟨by simp [g1],fun j hj hk=>?_⟩
     cases j with
     | zero=>
      refine ⟨f,?_,rfl,rfl,h2⟩
      rw [zc5,Array.getElem?_toList] at h1
      exact h1
     | succ j=>exact g2 j (by simpa using hj) (by simpa using hk)
theorem zhc {ds:List (Option Nat)} {sz:Nat}:∀ {l:List (Nat × Operand)} {ps:List (Nat × Nat × Sx)},zf1 ds sz l=some ps→ps.length=l.length∧
  ∀ j (hj:j < ps.length) (hk:j < l.length),(ps[j]'hj).1=(l[j]'hk).1 * sz∧(ps[j]'hj).2.1=sz∧lowS ds (l[j]'hk).2=some (ps[j]'hj).2.2
 | [],ps,h=>by cases h; exact ⟨rfl,fun j hj=>absurd hj (by simp)⟩
 | (i,x) :: l,ps,h=>by
  simp only [zf1] at h
  cases h2:lowS ds x with
  | none=>rw [h2] at h; cases h
  | some s=>
   cases h3:zf1 ds sz l with
   | none=>rw [h2,h3] at h; cases h
   | some r=>
    rw [h2,h3] at h; cases h
    obtain ⟨g1,g2⟩:=zhc h3
    refine ⟨by simp [g1],fun j hj hk=>?_⟩
    cases j with
    | zero=>exact ⟨rfl,rfl,h2⟩
    | succ j=>exact g2 j (by simpa using hj) (by simpa using hk)
section
variable {P:Program} {tb:Tb} {o:Oper}
theorem zv9 {t:TypeId} {os:Array (Nat × Operand)} (hT:TbOk P tb) (hop:o.op=.build t os) (ho:∀ z,zb4 tb t=some z→okCs z=true)
  (hfs:∀ fs:Array Field,und tb t=.struct fs→∀ f ∈ fs,∃ i,tb.types.get (f.type + 1)=some i) (hae:∀ m et,und tb t=.array m et→∃ i,tb.types.get (et + 1)=some i):OpOk P tb o:=by
 intro ds ls e a ρ h n w call k rr Q hc hf hi hr hne
 rw [hop] at hr
 simp only [zbb] at hr
 have hmem:∀ j (hk:j < os.toList.length),(os.toList[j]'hk).2 ∈ o.op.operands:=by
  intro j hk
  rw [hop]
  simp only [Op.operands]
  simp only [List.mem_toArray,List.mem_map]
  exact ⟨os.toList[j],List.getElem_mem _,rfl⟩
 cases hz:zb4 tb t with
 | none=>rw [hz] at hr; exact absurd hr.symm hne
 | some z=>
  rw [hz] at hr
  obtain ⟨i,zv,z1,z2,z3,z4⟩:=zee hT hz (ho z hz)
  cases hu:und tb t with
  | struct fs=>
   rw [hu] at hr
   simp only at hr
   cases hl:zeq ds tb fs os.toList with
   | none=>rw [hl] at hr; exact absurd hr.symm hne
   | some ps=>
    rw [hl] at hr
    obtain ⟨g1,g2⟩:=zgd hl
    obtain ⟨places,p1,p2⟩:=zov (P:=P) (w:=w) (fs:=fs) (fun f hf=>by obtain ⟨j,hj⟩:=hfs fs hu f hf; exact ⟨j,hT.info _ _ hj⟩)
    refine za5 (s:=Instr.build t (os.map fun (i,x)=>(i,a.eval x))) (by simp only [execOp,hop]) ?_
    refine znz (d:=.invalid) (ls:=ls) (e:=e) (f:=a.eval) (ps:=ps) (os:=os) (place:=fun i=>places[i]?) hi hne z2 z3 (z4 ρ) (ho z hz) g1 (fun j hj hk=>?_) (fun c hc=>?_) hr
    ·obtain ⟨f,f1,f2,f3,f4⟩:=g2 j hj hk
     obtain ⟨fi,hfi⟩:=hfs fs hu f (Array.mem_of_getElem? f1)
     refine ⟨?_,hf _ (hmem j hk) _ f4⟩
     rw [p2,f1,Option.bind_some,hT.info _ _ hfi,Option.map_some,f2,f3,zc8 hfi]
    ·exact zmn z2 z3 (hT.und hu (by simp)).1 p1 (fun i=>rfl) (by rw [Array.toList_map]; exact hc)
  | array m et=>
   rw [hu] at hr
   simp only at hr
   cases hl:zf1 ds (size tb et) os.toList with
   | none=>rw [hl] at hr; exact absurd hr.symm hne
   | some ps=>
    rw [hl] at hr
    obtain ⟨g1,g2⟩:=zhc hl
    obtain ⟨ei,hei⟩:=hae m et hu
    refine za5 (s:=Instr.build t (os.map fun (i,x)=>(i,a.eval x))) (by simp only [execOp,hop]) ?_
    refine znz (d:=.invalid) (ls:=ls) (e:=e) (f:=a.eval) (ps:=ps) (os:=os) (place:=fun i=>some (i * ei.size,ei.size)) hi hne z2 z3 (z4 ρ) (ho z hz) g1 (fun j hj hk=>?_) (fun c hc=>?_) hr
    ·obtain ⟨f1,f2,f3⟩:=g2 j hj hk
     exact ⟨by rw [f1,f2,zc8 hei],hf _ (hmem j hk) _ f3⟩
    ·exact zn7 z2 z3 (hT.und hu (by simp)).1 (hT.info _ _ hei) (by rw [Array.toList_map]; exact hc)
  | _=>rw [hu] at hr; exact absurd hr.symm hne
end
end
end Go.VE
namespace Go.VE
noncomputable section
open Go
def RelT (ρ:Mp) (t:T AV) (c:Array Value) (m:Nat):Prop:=c.size=m∧∀ j,j < m→∃ v,c[j]?=some v∧rel ρ (zag t j) v∧okC (zag t j)=true
theorem zwt {ρ:Mp} {t:T AV} {c:Array Value} {m off:Nat} {l:AV} {vs:List Value} (h:RelT ρ t c m) (hl:relL ρ l vs) (ho:okCs l=true) (hb:off + lenC l≤m) (hm:m≤top):RelT ρ (zd2 l off t) (zed c off vs) m:=by
 have hch:=zal hl
 have hlen:=zbz hch hl
 refine ⟨by rw [zau]; exact h.1,fun j hj=>?_⟩
 have hget:=zbq vs c off j (by rw [h.1,← hlen]; exact hb)
 have hat:=zi2 hch (i:=off) (t:=t) j (by omega)
 by_cases hin:off≤j∧j < off + lenC l
 ·have h1:=hat.1 hin.1 hin.2
  obtain ⟨v,h2,h3⟩:=zf4 hch hl h1
  refine ⟨v,?_,h3,zi5 hch ho h1⟩
  rw [hget,if_pos (by rw [← hlen]; exact hin)]
  exact h2
 ·rw [hat.2 hin]
  obtain ⟨v,h2,h3,h4⟩:=h.2 j hj
  exact ⟨v,by rw [hget,if_neg (by rw [← hlen]; exact hin)]; exact h2,h3,h4⟩
theorem zhy {ρ:Mp} {ls:List AV} {e:Env} {f:Operand→Value} {size a:Nat} (hsz:a * size≤top):∀ (ps:List (Nat × Sx)) (os:List (Nat × Operand)) (t:T AV) (c:Array Value) (r:T AV),ps.length=os.length→
  (∀ j (hj:j < ps.length) (hk:j < os.length),(ps[j]'hj).1=(os[j]'hk).1∧rel ρ ((ps[j]'hj).2 ls e) (f (os[j]'hk).2))→
  RelT ρ t c (a * size)→zic ls e size a ps t=some r→∃ c',Instr.fill (fun i=>some (i * size,size)) c (os.map fun (i,x)=>(i,f x))=some c'∧RelT ρ r c' (a * size)
 | [],[],t,c,r,_,_,hl,e1=>by cases e1; exact ⟨c,rfl,hl⟩
 | [],_ :: _,_,_,_,h,_,_,_=>by cases h
 | _ :: _,[],_,_,_,h,_,_,_=>by cases h
 | (i,s) :: ps,(i',x) :: os,t,c,r,h,hp,hl,e1=>by
  obtain ⟨h0,h1⟩:=hp 0 (by simp) (by simp)
  simp only [List.getElem_cons_zero] at h0 h1
  subst h0
  simp only [zic] at e1
  obtain ⟨g1,e2⟩:=za3 e1
  obtain ⟨g2,e3⟩:=za3 e2
  obtain ⟨g3,e4⟩:=za3 e3
  rw [Nat.beq_eq] at g1; rw [Nat.blt_eq] at g3
  have hv:=zet g2 h1
  have hlen:=zbz (zal hv) hv
  have hcs:(f x).cells.size=size:=by rw [← g1,hlen]; simp
  have hbd:i * size + size≤a * size:=by
   have:=Nat.mul_le_mul_right size (show i + 1≤a from g3)
   rw [Nat.add_mul,Nat.one_mul] at this
   exact this
  simp only [List.map_cons]
  rw [zls (off:=i * size) (size:=size) rfl hcs (by rw [hl.1]; exact hbd)]
  refine zhy hsz ps os _ _ r (by simpa using h) (fun j hj hk=>?_) (zwt hl hv g2 (by rw [g1]; exact hbd) hsz) e4
  have:=hp (j + 1) (by simp; omega) (by simp; omega)
  simpa using this
theorem zdr {ds:List (Option Nat)}:∀ {l:List (Nat × Operand)} {ps:List (Nat × Sx)},zcw ds l=some ps→ps.length=l.length∧
  ∀ j (hj:j < ps.length) (hk:j < l.length),(ps[j]'hj).1=(l[j]'hk).1∧lowS ds (l[j]'hk).2=some (ps[j]'hj).2
 | [],ps,h=>by cases h; exact ⟨rfl,fun j hj=>absurd hj (by simp)⟩
 | (i,x) :: l,ps,h=>by
  simp only [zcw] at h
  cases h2:lowS ds x with
  | none=>rw [h2] at h; cases h
  | some s=>
   cases h3:zcw ds l with
   | none=>rw [h2,h3] at h; cases h
   | some r=>
    rw [h2,h3] at h; cases h
    obtain ⟨g1,g2⟩:=zdr h3
    refine ⟨by simp [g1],fun j hj hk=>?_⟩
    cases j with
    | zero=>exact ⟨rfl,h2⟩
    | succ j=>exact g2 j (by simpa using hj) (by simpa using hk)
section
variable {P:Program} {tb:Tb} {o:Oper}
theorem zl5 {t:TypeId} {a:Nat} {os:Array (Nat × Operand)} (hT:TbOk P tb) (hop:o.op=.buildSlice t a os) (h8:∀ et,und tb t=.slice et→isU8 tb et=false)
  (ho:∀ et z i,und tb t=.slice et→zb4 tb et=some z→tb.types.get (et + 1)=some i→okCs z=true∧lenC z=i.size∧a * i.size≤2 ^ 24):OpOk P tb o:=by
 intro ds ls e ac ρ h n w call k rr Q hc hf hi hr hne
 rw [hop] at hr
 simp only [zbb] at hr
 have hmem:∀ j (hk:j < os.toList.length),(os.toList[j]'hk).2 ∈ o.op.operands:=by
  intro j hk
  rw [hop]
  simp only [Op.operands]
  simp only [List.mem_toArray,List.mem_map]
  exact ⟨os.toList[j],List.getElem_mem _,rfl⟩
 cases hu:und tb t with
 | slice et=>
  cases hl:zcw ds os.toList with
  | none=>rw [hu,hl] at hr; exact absurd hr.symm hne
  | some ps=>
   rw [hu,hl] at hr
   simp only at hr
   cases hz:zb4 tb et with
   | none=>rw [hz] at hr; exact absurd hr.symm hne
   | some z=>
    rw [hz] at hr
    simp only at hr
    rw [h8 et hu,cond_false] at hr
    have hget:∃ i,tb.types.get (et + 1)=some i:=by
     unfold zb4 at hz
     cases hza:zhr tb et with
     | none=>rw [hza] at hz; cases hz
     | some z'=>obtain ⟨i,_,g1,_⟩:=ze8 hT hza; exact ⟨i,g1⟩
    obtain ⟨i,hget⟩:=hget
    obtain ⟨o1,o2,o3⟩:=ho et z i hu hz hget
    obtain ⟨i',zv,z1,z2,z3,z4⟩:=zee hT hz o1
    rw [hget] at z1; cases z1
    rw [zc8 hget] at hr
    have hr':zf8 a a (mapO (.cells (a * i.size) i.size) (zic ls e i.size a ps (zfw z i.size a))) h n k=rr:=hr
    cases hb:zic ls e i.size a ps (zfw z i.size a) with
    | none=>rw [hb] at hr'; exact absurd hr'.symm hne
    | some r=>
     rw [hb] at hr'
     simp only [mapO,zf8] at hr'
     obtain ⟨g1,g2⟩:=zdr hl
     have hbig:(2:Nat) ^ 24=16777216:=by decide
     have htop:a * i.size≤top:=by unfold top; omega
     have hz0:RelT ρ (zfw z i.size a) ((Array.range (a * i.size)).map (zv.cells[· % zv.cells.size]!)) (a * i.size):=by
      have hro:=zfr (e:=et) (c:=a) (z4 ρ) o1 o2 (by omega)
      obtain ⟨c,e',fz,k1,_,k3⟩:=zbd hro
      cases k1
      refine ⟨by simp,fun j hj=>?_⟩
      obtain ⟨v,v1,v2,v3,_⟩:=k3 j hj
      exact ⟨v,by rwa [Nat.zero_add] at v1,v2,v3⟩
     obtain ⟨c',f1,f2⟩:=zhy (f:=ac.eval) htop ps os.toList _ _ r g1 (fun j hj hk=>by
      obtain ⟨p1,p2⟩:=g2 j hj hk
      exact ⟨p1,hf _ (hmem j hk) _ p2⟩) hz0 hb
     obtain ⟨e5,gg⟩:=zbp hi hne (y:=(i.size,a * i.size)) (o:=.cells c' et) hr' (fun _=>by
      refine ⟨⟨fun _=>by rw [f2.1],.inl rfl⟩,by omega,fun j hj=>?_⟩
      obtain ⟨v,v1,v2,v3⟩:=f2.2 j hj
      exact ⟨v,by rw [Nat.zero_add]; exact v1,v2,v3,by simp only; omega⟩)
     refine za5 (s:=Instr.buildSlice t a (os.map fun (i,x)=>(i,ac.eval x))) (by simp only [execOp,hop]) ⟨_,_,_,_,_,_,e5,?_,gg,zma hi hne (Nat.le_refl a)⟩
     have hle:¬ (a * i.size > 2 ^ 24):=by omega
     have hfill:∀ zz:Array Value,(a * i.size=0∨zz=zv.cells)→Instr.fill (fun j=>some (j * i.size,i.size)) ((Array.range (a * i.size)).map (zz[· % zz.size]!)) (os.map fun (i,x)=>(i,ac.eval x)).toList=some c':=by
      intro zz hzz
      rw [Array.toList_map]
      rcases hzz with h0 | rfl
      ·have e0:∀ g:Nat→Value,(Array.range 0).map g=#[]:=fun g=>by simp
       rw [← f1,h0,e0,e0]
      ·exact f1
     simp only [Instr.buildSlice,Sem.run_bind,zac (hT.und hu (by simp)).1,Result.andThen_ok,zaw z2,if_neg hle]
     by_cases h0:a * i.size=0
     ·simp only [if_pos h0,Sem.run_pure,Result.andThen_ok,hfill #[] (.inl h0),za9,Sem.run_bind]
     ·simp only [if_neg h0,Sem.run_bind,zbj z2 z3,Sem.run_pure,Result.andThen_ok,hfill zv.cells (.inr rfl),za9]
 | _=>rw [hu] at hr; revert hr; cases zcw ds os.toList<;>intro hr<;>exact absurd hr.symm hne
end
end
end Go.VE
namespace Go.VE
noncomputable section
open Go
def RelB (x:Nat) (c:Array Value) (n:Nat):Prop:=c.size=n∧∃ l,zb6 l n x∧∀ i (hi:i < l.length),c[i]?=some (.int .u8 (l[i]'hi).toNat)
theorem zws {x:Nat} {c:Array Value} {n i m:Nat} (h:RelB x c n) (hi:i < n) (hm:m < 256):RelB (layB n x i 1 m) (zed c i [.int .u8 (m:Int)]) n:=by
 obtain ⟨h1,l,h2,h3⟩:=h
 have hlen:=h2.1
 refine ⟨by rw [zau]; exact h1,_,zhh h2 (zjw hm) (by omega),fun j hj=>?_⟩
 have hj':j < n:=by simp at hj; omega
 rw [zbq _ _ _ _ (by simp; omega)]
 simp only [List.length_singleton]
 by_cases e:i≤j∧j < i + 1
 ·have:j=i:=by omega
  subst this
  rw [if_pos e,Nat.sub_self]
  simp only [List.getElem_append,List.length_append,List.length_take]
  simp only [List.length_singleton,List.getElem?_cons_zero]
  rw [dif_pos (by omega),dif_neg (by omega)]
  simp
  omega
 ·rw [if_neg e]
  have hg:=h3 j (by omega)
  rw [hg]
  simp only [List.getElem_append,List.length_append,List.length_take,List.length_singleton]
  by_cases h4:j < i
  ·rw [dif_pos (by omega),dif_pos (by omega)]; simp
  ·rw [dif_neg (by omega)]
   simp only [List.getElem_drop]
   congr 5
   omega
theorem zko {ρ:Mp} {ls:List AV} {e:Env} {f:Operand→Value} {n:Nat}:∀ (ps:List (Nat × Sx)) (os:List (Nat × Operand)) (x:Nat) (c:Array Value) (r:Nat),ps.length=os.length→
  (∀ j (hj:j < ps.length) (hk:j < os.length),(ps[j]'hj).1=(os[j]'hk).1∧rel ρ ((ps[j]'hj).2 ls e) (f (os[j]'hk).2))→
  RelB x c n→zkn ls e n ps x=some r→∃ c',Instr.fill (fun i=>some (i * 1,1)) c (os.map fun (i,x)=>(i,f x))=some c'∧RelB r c' n
 | [],[],x,c,r,_,_,hl,e1=>by cases e1; exact ⟨c,rfl,hl⟩
 | [],_ :: _,_,_,_,h,_,_,_=>by cases h
 | _ :: _,[],_,_,_,h,_,_,_=>by cases h
 | (i,s) :: ps,(i',x) :: os,t,c,r,h,hp,hl,e1=>by
  obtain ⟨h0,h1⟩:=hp 0 (by simp) (by simp)
  simp only [List.getElem_cons_zero] at h0 h1
  subst h0
  simp only [zkn] at e1
  split at e1
  ·rename_i m hm
   obtain ⟨g3,e4⟩:=za3 e1
   rw [Nat.blt_eq] at g3
   rw [hm] at h1
   obtain ⟨kd,mm,hk,hv,hu,hin⟩:=zdc h1
   have hkd:kd=.u8:=by cases kd<;>first | rfl | (exact absurd hk (by decide))
   subst hkd
   have hmm:(m:Int)=mm∧m < 256:=by
    have h5:=hin.1; have h6:=hin.2
    have h7:IntKind.u8.min=0:=by decide
    have h8:IntKind.u8.max=255:=by decide
    rw [h7] at h5; rw [h8] at h6
    rw [hu]
    simp only [encI,zad,moN]
    omega
   have hfv:f x=.int .u8 (m:Int):=by rw [hv,hmm.1]
   simp only [List.map_cons]
   rw [zls (off:=i * 1) (size:=1) rfl (by rw [hfv]; rfl) (by rw [hl.1]; omega)]
   refine zko (ρ:=ρ) ps os _ _ r (by simpa using h) (fun j hj hk=>?_) ?_ e4
   ·have:=hp (j + 1) (by simp; omega) (by simp; omega)
    simpa using this
   ·rw [hfv,Nat.mul_one]
    exact zws hl g3 hmm.2
  ·cases e1
section
variable {P:Program} {tb:Tb} {o:Oper}
theorem zrf {t:TypeId} {a:Nat} {os:Array (Nat × Operand)} (hT:TbOk P tb) (hop:o.op=.buildSlice t a os) (ho:∀ et,und tb t=.slice et→isU8 tb et=true∧∃ i,tb.types.get (et + 1)=some i∧i.zero=some (.int .u8 0)∧i.size=1∧a≤2 ^ 24):OpOk P tb o:=by
 intro ds ls e ac ρ h n w call k rr Q hc hf hi hr hne
 rw [hop] at hr
 simp only [zbb] at hr
 have hmem:∀ j (hk:j < os.toList.length),(os.toList[j]'hk).2 ∈ o.op.operands:=by
  intro j hk
  rw [hop]
  simp only [Op.operands]
  simp only [List.mem_toArray,List.mem_map]
  exact ⟨os.toList[j],List.getElem_mem _,rfl⟩
 cases hu:und tb t with
 | slice et=>
  obtain ⟨h8,i,hget,hz0,hsz,hbd⟩:=ho et hu
  cases hl:zcw ds os.toList with
  | none=>rw [hu,hl] at hr; exact absurd hr.symm hne
  | some ps=>
   rw [hu,hl] at hr
   simp only at hr
   cases hz:zb4 tb et with
   | none=>rw [hz] at hr; exact absurd hr.symm hne
   | some z=>
    rw [hz] at hr
    simp only at hr
    rw [h8,cond_true] at hr
    have z2:=hT.info _ _ hget
    have hr':zf8 a a (mapO (.bytes a) (zkn ls e a ps 0)) h n k=rr:=hr
    cases hb:zkn ls e a ps 0 with
    | none=>rw [hb] at hr'; exact absurd hr'.symm hne
    | some r=>
     rw [hb] at hr'
     simp only [mapO,zf8] at hr'
     obtain ⟨g1,g2⟩:=zdr hl
     have hbig:(2:Nat) ^ 24=16777216:=by decide
     have hzz:RelB 0 ((Array.range (a * 1)).map ((Value.int .u8 0).cells[· % (Value.int .u8 0).cells.size]!)) a:=by
      refine ⟨by simp,List.replicate a 0,zdv a,fun j hj=>?_⟩
      have hro:=zk6 (ρ:=ρ) (e:=et) (c:=a) (zs:=(Value.int .u8 0).cells) rfl (by omega)
      obtain ⟨_,_,l,k1,k2⟩:=hro
      have hll:=znh k1 (zdv a)
      subst hll
      have:=(k2 j hj).1
      rwa [Nat.zero_add] at this
     obtain ⟨c',f1,f2⟩:=zko (f:=ac.eval) (ρ:=ρ) ps os.toList _ _ r g1 (fun j hj hk=>by
      obtain ⟨p1,p2⟩:=g2 j hj hk
      exact ⟨p1,hf _ (hmem j hk) _ p2⟩) hzz hb
     obtain ⟨e5,gg⟩:=zbp hi hne (y:=(1,a)) (o:=.cells c' et) hr' (fun _=>by
      obtain ⟨q1,l,q2,q3⟩:=f2
      refine ⟨⟨by rw [q1],.inl rfl⟩,by omega,l,q2,fun j hj=>⟨by rw [Nat.zero_add]; exact q3 j hj,by simp only; omega⟩⟩)
     refine za5 (s:=Instr.buildSlice t a (os.map fun (i,x)=>(i,ac.eval x))) (by simp only [execOp,hop]) ⟨_,_,_,_,_,_,e5,?_,gg,zma hi hne (Nat.le_refl a)⟩
     have hle:¬ (a * 1 > 2 ^ 24):=by omega
     have hfill:∀ zz:Array Value,(a * 1=0∨zz=(Value.int .u8 0).cells)→Instr.fill (fun j=>some (j * 1,1)) ((Array.range (a * 1)).map (zz[· % zz.size]!)) (os.map fun (i,x)=>(i,ac.eval x)).toList=some c':=by
      intro zz hzz
      rw [Array.toList_map]
      rcases hzz with h0 | rfl
      ·have e0:∀ g:Nat→Value,(Array.range 0).map g=#[]:=fun g=>by simp
       rw [← f1,h0,e0,e0]
      ·exact f1
     simp only [Instr.buildSlice,Sem.run_bind,zac (hT.und hu (by simp)).1,Result.andThen_ok,zaw z2,hsz,if_neg hle]
     by_cases h0:a * 1=0
     ·simp only [if_pos h0,Sem.run_pure,Result.andThen_ok,hfill #[] (.inl h0),za9,Sem.run_bind]
     ·simp only [if_neg h0,Sem.run_bind,zbj z2 hz0,Sem.run_pure,Result.andThen_ok,hfill _ (.inr rfl),za9]
 | _=>rw [hu] at hr; revert hr; cases zcw ds os.toList<;>intro hr<;>exact absurd hr.symm hne
end
end
end Go.VE
namespace Go.VE
noncomputable section
open Go
def zil (tb:Tb) (t:TypeId):Bool:=match und tb t with | .invalid=>false | _=>true
theorem zd5 {tb:Tb} {t:TypeId} (h:zil tb t=true):und tb t≠.invalid:=fun e=>by unfold zil at h; rw [e] at h; cases h
def zqx (tb:Tb) (t:TypeId):Bool:=match zb4 tb t with | some z=>okCs z | none=>true
theorem zkb {tb:Tb} {t:TypeId} (h:zqx tb t=true):∀ z,zb4 tb t=some z→okCs z=true:=fun z hz=>by unfold zqx at h; rw [hz] at h; exact h
def zmr (tb:Tb) (t:TypeId) (f:Nat):Bool:=match und tb t with
 | .struct fs=>match fs[f]? with | some fd=>zil tb fd.type | none=>true
 | _=>true
def zd9 (tb:Tb) (t:TypeId):Bool:=match und tb t with
 | .slice e=>zil tb e
 | .array _ e=>zil tb e
 | .pointer p=>match und tb p with | .array _ e=>zil tb e | _=>true
 | _=>true
theorem zjk {tb:Tb} {t et:TypeId} (h:zd9 tb t=true) (hu:und tb t=.slice et):und tb et≠.invalid:=by unfold zd9 at h; rw [hu] at h; exact zd5 h
theorem zgi {tb:Tb} {t et:TypeId} {m:Nat} (h:zd9 tb t=true) (hu:und tb t=.array m et):und tb et≠.invalid:=by unfold zd9 at h; rw [hu] at h; exact zd5 h
theorem zof {tb:Tb} {t p et:TypeId} {m:Nat} (h:zd9 tb t=true) (hu:und tb t=.pointer p) (hu2:und tb p=.array m et):und tb et≠.invalid:=by
 unfold zd9 at h; rw [hu] at h; simp only at h; rw [hu2] at h; exact zd5 h
def zjv (tb:Tb):Op→Bool
 | .move _ | .assign _ | .pick _ _ _ | .box _ _ | .nilCheck _ | .load _ _ | .mapUpdate _ _ _ _ | .insert _ _ _ _ | .unOp _ _ _ | .extract _ _ | .lookup _ _ _ _ | .fieldAddr _ _ _ | .convert _ _ _ | .makeFunc (.func _) _ _=>true
 | .makeMap _ r=>r.isNone
 | .binOp _ _ _ _ _=>true
 | .store t _ _ | .makeInterface t _=>zil tb t
 | .field t _ f=>zmr tb t f
 | .indexAddr t _ _ | .index t _ _=>zd9 tb t
 | .slice t _ _ hi mx=>zd9 tb t && (mx.isNone || hi.isSome)
 | .call c=>match c.callee with | .value _ | .invoke _ _=>true | .builtin .min | .builtin .max=>true | .builtin .len | .builtin .cap | .builtin .clear=>Nat.blt 0 c.argTypes.size | _=>false
 | _=>false
section
variable {P:Program} {tb:Tb} {o:Oper}
theorem zri (hT:TbOk P tb) (h:zjv tb o.op=true):OpOk P tb o:=by
 cases hop:o.op<;>rw [hop] at h<;>simp only [zjv] at h<;>try (exact absurd h (by decide))
 case move=>exact ztt (.inl hop)
 case assign=>exact ztt (.inr hop)
 case pick=>exact zzh hop
 case box=>exact ok_box hop
 case nilCheck=>exact zo0 hop
 case load=>exact zzf hT hop
 case mapUpdate=>exact znf hT (.inl hop)
 case insert=>exact znf hT (.inr hop)
 case unOp=>exact zzi hop
 case extract=>exact ok_ext hop
 case lookup=>exact zts hT hop
 case fieldAddr=>exact znc hT hop
 case convert s d x=>
  by_cases hs:∃ et,und tb s=.slice et
  ·exact znb hT hop hs
  ·exact zrg hT hop fun et he=>hs ⟨et,he⟩
 case makeFunc fn _ _=>
  cases fn<;>simp only at h<;>try (exact absurd h (by decide))
  exact zoz hop
 case makeMap t r=>
  cases r with
  | none=>exact zrh hop
  | some _=>cases h
 case binOp op t x y yt=>
  exact ok_bin hT hop
 case store=>exact zwe hT hop (zd5 h)
 case makeInterface=>exact zzg hT hop (zd5 h)
 case field t x f=>
  refine zwb hT hop fun fs fd hu hfd=>?_
  unfold zmr at h
  rw [hu] at h
  simp only at h
  rw [hfd] at h
  exact zd5 h
 case indexAddr=>exact znd hT hop fun et he=>by rcases he with he | ⟨m,he⟩; exact zjk h he; exact zgi h he
 case index=>exact zwc hT hop fun m et he=>zgi h he
 case slice t x lo hi' mx=>
  rw [Bool.and_eq_true] at h
  refine zwd hT hop (fun hm=>?_) (fun et he=>zjk h.1 he) (fun m et he=>zgi h.1 he) (fun p m et he h2=>zof h.1 he h2)
  have:=h.2
  cases mx<;>simp_all
 case call c=>
  cases hc:c.callee with
  | value f=>exact zzd hop ⟨f,hc⟩
  | invoke r m=>exact ztr hT hop hc
  | builtin b=>
   rw [hc] at h
   cases b<;>simp only at h<;>try (exact absurd h (by decide))
   case min=>exact zxu hT hop (.inl hc)
   case max=>exact zxu hT hop (.inr hc)
   case len=>exact ok_len hT hop hc (by rwa [Nat.blt_eq] at h)
   case cap=>exact ok_cap hT hop hc (by rwa [Nat.blt_eq] at h)
   case clear=>exact zwa hT hop hc (by rwa [Nat.blt_eq] at h)
end
end
end Go.VE
namespace Go.VE
noncomputable section
open Go
def zy0:Value→Bool | .nilIface=>true | _=>false
def isZ8:Value→Bool | .int .u8 0=>true | _=>false
def zos (n:Nat):Value→Bool
 | .agg ⟨l⟩=>Nat.beq l.length n && l.all isZ8
 | _=>false
theorem zjs {v:Value} (h:isZ8 v=true):v=.int .u8 0:=by
 unfold isZ8 at h; split at h<;>first | rfl | cases h
theorem zkx {n:Nat} {v:Value} (h:zos n v=true):v=.agg (Array.replicate n (.int .u8 0)):=by
 cases v<;>simp only [zos] at h<;>try (cases h; done)
 rename_i c
 obtain ⟨l⟩:=c
 simp only [Bool.and_eq_true,List.all_eq_true] at h
 have hl:=zak h.1
 have:l=List.replicate n (.int .u8 0):=by
  rw [List.eq_replicate_iff]
  refine ⟨hl,fun v hv=>?_⟩
  exact zjs (h.2 v hv)
 rw [this]; simp
def zfd (tb:Tb) (t:TypeId):Bool:=zqx tb t && (match und tb t with
 | .array n e=>bif isU8 tb e then (match tb.types.get (t + 1) with | some i=>(match i.zero with | some z=>zos n z | none=>false) | none=>false) else true
 | _=>true)
def zi3 (tb:Tb) (t:TypeId):Bool:=match und tb t with
 | .slice e=>(match tb.types.get (e + 1) with
  | some i=>bif isU8 tb e then (match i.zero with | some z=>isZ8 z && Nat.beq i.size 1 && Nat.beq i.bytes 1 | none=>false)
   else (match zb4 tb e with | some z=>okCs z && Nat.beq (lenC z) i.size | none=>true)
  | none=>true)
 | _=>true
def zjg (tb:Tb) (t:TypeId):Bool:=zqx tb t && (match und tb t with
 | .struct fs=>fs.toList.all fun f=>(tb.types.get (f.type + 1)).isSome
 | .array _ e=>(tb.types.get (e + 1)).isSome
 | _=>true)
def zll (tb:Tb) (t:TypeId):Bool:=match und tb t with
 | .invalid=>false
 | .interface _=>(match tb.types.get (t + 1) with | some i=>(match i.zero with | some z=>zy0 z | none=>false) | none=>true)
 | _=>true
section
variable {P:Program} {tb:Tb} {o:Oper}
theorem zmi {t:TypeId} (hT:TbOk P tb) (hop:o.op=.alloc t) (h:zfd tb t=true):OpOk P tb o:=by
 unfold zfd at h
 rw [Bool.and_eq_true] at h
 refine zv6 hT hop (fun n e hu h8=>?_) (zkb h.1)
 have h2:=h.2
 rw [hu] at h2
 simp only at h2
 rw [h8,cond_true] at h2
 cases hg:tb.types.get (t + 1) with
 | none=>rw [hg] at h2; cases h2
 | some i=>
  rw [hg] at h2
  simp only at h2
  cases hz:i.zero with
  | none=>rw [hz] at h2; cases h2
  | some z=>rw [hz] at h2; exact ⟨i,rfl,by rw [hz,zkx h2]⟩
theorem zox {t:TypeId} {x y:Operand} (hT:TbOk P tb) (hop:o.op=.makeSlice t x y) (h:zi3 tb t=true):OpOk P tb o:=by
 refine zne hT hop (fun et i hu hg h8=>?_) (fun et i z hu hg hz=>?_)
 ·unfold zi3 at h
  rw [hu] at h
  simp only at h
  rw [hg] at h
  simp only at h
  rw [h8,cond_true] at h
  cases hz:i.zero with
  | none=>rw [hz] at h; cases h
  | some z=>
   rw [hz] at h
   simp only [Bool.and_eq_true] at h
   exact ⟨by rw [zjs h.1.1],zak h.1.2,zak h.2⟩
 ·unfold zi3 at h
  rw [hu] at h
  simp only at h
  rw [hg] at h
  simp only at h
  cases h8:isU8 tb et with
  | true=>
   rw [h8,cond_true] at h
   cases hz2:i.zero with
   | none=>rw [hz2] at h; cases h
   | some zv=>
    rw [hz2] at h
    simp only [Bool.and_eq_true] at h
    have e1:=zjs h.1.1
    unfold zb4 zhr at hz
    rw [hg] at hz
    simp only [hz2,Option.bind_some,e1] at hz
    have:lowV (.int .u8 0)=some (.int 4 0):=rfl
    rw [this] at hz
    cases hz
    exact ⟨rfl,by rw [zak h.1.2]; rfl⟩
  | false=>
   rw [h8,cond_false,hz] at h
   simp only [Bool.and_eq_true] at h
   exact ⟨h.1,zak h.2⟩
theorem zmm {t:TypeId} {os:Array (Nat × Operand)} (hT:TbOk P tb) (hop:o.op=.build t os) (h:zjg tb t=true):OpOk P tb o:=by
 unfold zjg at h
 rw [Bool.and_eq_true] at h
 refine zv9 hT hop (zkb h.1) (fun fs hu f hf=>?_) (fun m et hu=>?_)
 ·have h2:=h.2
  rw [hu] at h2
  simp only [List.all_eq_true] at h2
  exact Option.isSome_iff_exists.1 (h2 f (by simpa using hf))
 ·have h2:=h.2
  rw [hu] at h2
  exact Option.isSome_iff_exists.1 h2
theorem zn4 {x:Operand} {t t':TypeId} (hT:TbOk P tb) (hop:o.op=.typeAssert x t' t true) (h:zll tb t=true):OpOk P tb o:=by
 unfold zll at h
 by_cases hi:∃ ms,und tb t=.interface ms
 ·obtain ⟨ms,hu⟩:=hi
  rw [hu] at h
  refine zv7 hT hop hu fun i hg=>?_
  simp only at h
  rw [hg] at h
  simp only at h
  cases hz:i.zero with
  | none=>rw [hz] at h; cases h
  | some z=>rw [hz] at h; cases z<;>first | rfl | cases h
 ·refine zv8 hT hop (fun ms hu=>hi ⟨ms,hu⟩) fun e=>?_
  rw [e] at h; cases h
end
end
end Go.VE
namespace Go.VE
noncomputable section
open Go
def ziu (tb:Tb) (ats:Array TypeId):Bool:=match und tb (ats.getD 1 0) with
 | .string=>(match und tb (ats.getD 0 0) with
  | .slice e=>(match tb.types.get (e + 1) with | some i=>Nat.beq i.size 1 && Nat.beq i.bytes 1 | none=>true)
  | _=>true)
 | _=>true
def zpd (tb:Tb) (ats:Array TypeId):Bool:=Nat.beq ats.size 2 && (match und tb (ats.getD 0 0) with
 | .pointer e=>(match tb.types.get (e + 1) with | some i=>Nat.beq i.size 1 | none=>false)
 | _=>true)
def zli (tb:Tb) (ats:Array TypeId):Bool:=Nat.beq ats.size 2 && (match und tb (ats.getD 1 0) with | .int _=>false | _=>true) && (match und tb (ats.getD 0 0) with
 | .slice e=>(match tb.types.get (e + 1) with | some i=>(match i.zero with | some z=>Nat.beq z.cells.size i.size | none=>true) | none=>true)
 | _=>true)
def zlp (tb:Tb) (ats:Array TypeId):Bool:=Nat.blt 0 ats.size && (match und tb (ats.getD 0 0) with | .slice e=>zil tb e && Nat.beq (size tb e) 1 | _=>true)
def zhx (tb:Tb) (t:TypeId) (a:Nat):Bool:=match und tb t with
 | .slice e=>(match tb.types.get (e + 1) with
  | some i=>bif isU8 tb e then (match i.zero with | some z=>isZ8 z && Nat.beq i.size 1 && Nat.ble a 16777216 | none=>false)
   else (match zb4 tb e with | some z=>okCs z && Nat.beq (lenC z) i.size && Nat.ble (a * i.size) 16777216 | none=>true)
  | none=>false)
 | _=>true
def zs8:Op→Bool
 | .panic _ | .go _ | .defer _ | .range _ _ | .next _ _ | .entry _ | .mapEntry _ _ _ | .entryStore _ _ _ _ | .recv _ _ _ | .send _ _ | .select _ _ | .makeChan _ _ | .ready _ | .waits _ | .sliceToArrayPointer _ _=>true
 | .typeAssert _ _ _ ok=>!ok
 | .makeMap _ r=>r.isSome
 | _=>false
def zk3 (tb:Tb) (o:Op):Bool:=zjv tb o || zs8 o || (match o with
 | .alloc t=>zfd tb t
 | .makeSlice t _ _=>zi3 tb t
 | .build t _=>zjg tb t
 | .buildSlice t a _=>zhx tb t a
 | .typeAssert _ _ t true=>zll tb t
 | .call c=>(match c.callee with | .builtin .append=>zli tb c.argTypes && ziu tb c.argTypes | .builtin .copy=>zlp tb c.argTypes | .builtin .unsafeSliceData=>true | .builtin .unsafeString=>zpd tb c.argTypes | _=>false)
 | _=>false)
section
variable {P:Program} {tb:Tb} {o:Oper}
theorem zvr (h:zs8 o.op=true):OpOk P tb o:=by
 intro ds ls e a ρ h' n w call k rr Q hc hf hi hr hne
 have:zbb ds tb o.op=oBad:=by
  generalize o.op=p at h
  cases p<;>simp only [zs8] at h<;>first | (cases h; done) | rfl | skip
  case typeAssert _ _ _ ok=>cases ok<;>first | rfl | cases h
  case makeMap _ r=>cases r<;>first | rfl | cases h
 rw [this] at hr
 exact absurd hr.symm hne
theorem zq0 {t:TypeId} {a:Nat} {os:Array (Nat × Operand)} (hT:TbOk P tb) (hop:o.op=.buildSlice t a os) (h:zhx tb t a=true):OpOk P tb o:=by
 have hbig:(2:Nat) ^ 24=16777216:=by decide
 by_cases h8:∃ et,und tb t=.slice et∧isU8 tb et=true
 ·obtain ⟨et,hu,h8⟩:=h8
  refine zrf hT hop fun et' hu'=>?_
  rw [hu] at hu'; cases hu'
  unfold zhx at h
  rw [hu] at h
  simp only at h
  cases hg:tb.types.get (et + 1) with
  | none=>rw [hg] at h; cases h
  | some i=>
   rw [hg] at h
   simp only at h
   rw [h8,cond_true] at h
   cases hz:i.zero with
   | none=>rw [hz] at h; cases h
   | some z=>
    rw [hz] at h
    simp only [Bool.and_eq_true] at h
    exact ⟨h8,i,rfl,by rw [hz,zjs h.1.1],zak h.1.2,by rw [hbig]; exact Nat.le_of_ble_eq_true h.2⟩
 ·refine zl5 hT hop (fun et hu=>?_) fun et z i hu hz hg=>?_
  ·cases h1:isU8 tb et with
   | false=>rfl
   | true=>exact absurd ⟨et,hu,h1⟩ h8
  ·have h1:isU8 tb et=false:=by
    cases h1:isU8 tb et with
    | false=>rfl
    | true=>exact absurd ⟨et,hu,h1⟩ h8
   unfold zhx at h
   rw [hu] at h
   simp only at h
   rw [hg] at h
   simp only at h
   rw [h1,cond_false,hz] at h
   simp only [Bool.and_eq_true] at h
   exact ⟨h.1.1,zak h.1.2,by rw [hbig]; exact Nat.le_of_ble_eq_true h.2⟩
theorem zqy {c:Call} (hT:TbOk P tb) (hop:o.op=.call c) (hcb:c.callee=.builtin .append) (h:zli tb c.argTypes=true) (hb:ziu tb c.argTypes=true):OpOk P tb o:=by
 unfold zli at h
 rw [Bool.and_eq_true,Bool.and_eq_true] at h
 refine ztq hT hop hcb (zak h.1.1) (fun k hk=>?_) (fun et i zv hu hg hz=>?_) fun et i hu hg hst=>?_
 ·have:=h.1.2
  rw [hk] at this; cases this
 ·have:=h.2
  rw [hu] at this
  simp only at this
  rw [hg] at this
  simp only at this
  rw [hz] at this
  exact zak this
 ·unfold ziu at hb
  rw [hst,hu] at hb
  simp only at hb
  rw [hg] at hb
  simp only [Bool.and_eq_true] at hb
  exact ⟨zak hb.1,zak hb.2⟩
theorem zod {c:Call} (hT:TbOk P tb) (hop:o.op=.call c) (hcb:c.callee=.builtin .copy) (h:zlp tb c.argTypes=true):OpOk P tb o:=by
 unfold zlp at h
 rw [Bool.and_eq_true] at h
 refine zze hT hop hcb (by have:=h.1; rwa [Nat.blt_eq] at this) fun et hu=>?_
 have:=h.2
 rw [hu] at this
 simp only [Bool.and_eq_true] at this
 exact ⟨zd5 this.1,zak this.2⟩
theorem ztu (hT:TbOk P tb) (h:zk3 tb o.op=true):OpOk P tb o:=by
 unfold zk3 at h
 rw [Bool.or_eq_true,Bool.or_eq_true] at h
 rcases h with (h | h) | h
 ·exact zri hT h
 ·exact zvr h
 ·cases hop:o.op<;>rw [hop] at h<;>try (cases h; done)
  case alloc=>exact zmi hT hop h
  case makeSlice=>exact zox hT hop h
  case build=>exact zmm hT hop h
  case buildSlice=>exact zq0 hT hop h
  case typeAssert x t' t ok=>
   cases ok
   ·cases h
   ·exact zn4 hT hop h
  case call c=>
   simp only at h
   cases hc:c.callee with
   | value f=>rw [hc] at h; cases h
   | invoke r m=>rw [hc] at h; cases h
   | builtin b=>
    rw [hc] at h
    cases b<;>try (cases h; done)
    case append=>
     have h':(zli tb c.argTypes && ziu tb c.argTypes)=true:=h
     rw [Bool.and_eq_true] at h'
     exact zqy hT hop hc h'.1 h'.2
    case unsafeSliceData=>exact ok_usd hT hop hc
    case unsafeString=>
     have h':zpd tb c.argTypes=true:=h
     unfold zpd at h'
     rw [Bool.and_eq_true] at h'
     refine ok_ust hT hop hc (zak h'.1) fun e hu=>?_
     have h2:=h'.2
     rw [hu] at h2
     simp only at h2
     cases hg:tb.types.get (e + 1) with
     | none=>rw [hg] at h2; cases h2
     | some i=>rw [hg] at h2; exact ⟨i,rfl,zak h2⟩
    case copy=>exact zod hT hop hc h
end
end
end Go.VE
namespace Go.VE
noncomputable section
open Go
section
variable {P:Program} {tb:Tb} {o:Oper}
theorem zns {t:TypeId} {i:TypeInfo} {z:Value} {w:World} (hin:P.info? t=some i) (hz:i.zero=some z):(Instr.alloc t true (.tuple #[])).run P w=.ok (.pointer (some ⟨w.heap.size,0,none⟩)) (w.alloc (.cells z.cells t)):=by
 simp only [Instr.alloc,Sem.run_bind,zbj hin hz,Result.andThen_ok,newVar,za9,Sem.run_pure]
theorem zj4 {s:Sem Value} {w w':World} {rv:Value} {a:Act} (hx:execOp a.eval o=(do pure (Next.value (← s)))) (h:s.run P w=.ok rv w'):(execOp a.eval o).run P w=.ok (.value rv) w':=by
 rw [hx]
 simp only [Sem.run_bind,h,Result.andThen_ok,Sem.run_pure]
theorem zol {t:TypeId} (hT:TbOk P tb) (hop:o.op=.alloc t) (h8:∀ n e,und tb t=.array n e→isU8 tb e=true→∃ i,tb.types.get (t + 1)=some i∧i.zero=some (.agg (Array.replicate n (.int .u8 0))))
  (ho:∀ z,zb4 tb t=some z→okCs z=true):zle P tb o:=by
 intro ds ls e a ρ n w call h v h' n' hf _ hr
 refine .inl ?_
 rw [hop] at hr
 have gen:(match zb4 tb t with | some z=>oNew (zl4 (zvs tb t) t z) | none=>oBad) call ls e h n finK=.fin v h' n'→
   ∃ ao o_ y rv,n < top∧h'=setO h n ao∧n'=n + 1∧relO ρ y ao (some o_) 0∧(∀ σ:Mp,σ n=some (w.heap.size,0)→σ.g n=y→rel σ v rv)∧(execOp a.eval o).run P w=.ok (.value rv) (w.alloc o_)∧∃ c e fz,o_=.cells c e fz:=fun h0=>by
  cases hz:zb4 tb t with
  | none=>rw [hz] at h0; cases h0
  | some z=>
   rw [hz] at h0
   obtain ⟨i,zv,_,z2,z3,z4⟩:=zee hT hz (ho z hz)
   obtain ⟨k1,k2,rfl,rfl,rfl⟩:=zjl (v0:=fun n=>.ptr n 0) h0
   refine ⟨_,.cells zv.cells t,(0,0),_,k1,rfl,rfl,zk5 (z4 ρ) (ho z hz) k2,fun σ hσ _=>zd3 hσ,zj4 (by simp only [execOp,hop]) (zns z2 z3),_,_,_,rfl⟩
 by_cases harr:∃ m e',und tb t=.array m e'∧isU8 tb e'=true
 ·obtain ⟨m,e',hu,h1⟩:=harr
  simp only [zbb] at hr
  rw [hu] at hr
  simp only at hr
  rw [h1,cond_true] at hr
  obtain ⟨i,g1,g2⟩:=h8 m e' hu h1
  obtain ⟨k1,k2,rfl,rfl,rfl⟩:=zjl (v0:=fun n=>.ptr n 0) hr
  exact ⟨_,.cells (Array.replicate m (.int .u8 0)) t,_,_,k1,rfl,rfl,zo6 (zdv m) (by simpa [fitO] using k2) (fun i hi=>by simp at hi; simp [hi]) (.inl rfl),fun σ hσ _=>zd3 hσ,
   zj4 (by simp only [execOp,hop]) (zns (hT.info _ _ g1) g2),_,_,_,rfl⟩
 ·refine gen ?_
  simp only [zbb] at hr
  cases hu:und tb t with
  | array m e'=>
   rw [hu] at hr
   simp only at hr
   have h1:isU8 tb e'=false:=by
    cases h1:isU8 tb e' with
    | false=>rfl
    | true=>exact absurd ⟨m,e',hu,h1⟩ harr
   rw [h1,cond_false] at hr
   exact hr
  | _=>rw [hu] at hr; exact hr
theorem ziq {t:TypeId} {a:Nat} {os:Array (Nat × Operand)} (hT:TbOk P tb) (hop:o.op=.buildSlice t a os) (h8:∀ et,und tb t=.slice et→isU8 tb et=false)
  (ho:∀ et z i,und tb t=.slice et→zb4 tb et=some z→tb.types.get (et + 1)=some i→okCs z=true∧lenC z=i.size∧a * i.size≤2 ^ 24):zle P tb o:=by
 intro ds ls e ac ρ n w call h v h' n' hf _ hr
 refine .inl ?_
 have hne:(RR.fin v h' n')≠.fail:=by simp
 rw [hop] at hr
 simp only [zbb] at hr
 have hmem:∀ j (hk:j < os.toList.length),(os.toList[j]'hk).2 ∈ o.op.operands:=by
  intro j hk
  rw [hop]
  simp only [Op.operands]
  simp only [List.mem_toArray,List.mem_map]
  exact ⟨os.toList[j],List.getElem_mem _,rfl⟩
 cases hu:und tb t with
 | slice et=>
  cases hl:zcw ds os.toList with
  | none=>rw [hu,hl] at hr; exact absurd hr.symm hne
  | some ps=>
   rw [hu,hl] at hr
   simp only at hr
   cases hz:zb4 tb et with
   | none=>rw [hz] at hr; exact absurd hr.symm hne
   | some z=>
    rw [hz] at hr
    simp only at hr
    rw [h8 et hu,cond_false] at hr
    have hget:∃ i,tb.types.get (et + 1)=some i:=by
     unfold zb4 at hz
     cases hza:zhr tb et with
     | none=>rw [hza] at hz; cases hz
     | some z'=>obtain ⟨i,_,g1,_⟩:=ze8 hT hza; exact ⟨i,g1⟩
    obtain ⟨i,hget⟩:=hget
    obtain ⟨o1,o2,o3⟩:=ho et z i hu hz hget
    obtain ⟨i',zv,z1,z2,z3,z4⟩:=zee hT hz o1
    rw [hget] at z1; cases z1
    rw [zc8 hget] at hr
    have hr':zf8 a a (mapO (.cells (a * i.size) i.size) (zic ls e i.size a ps (zfw z i.size a))) h n finK=.fin v h' n':=hr
    cases hb:zic ls e i.size a ps (zfw z i.size a) with
    | none=>rw [hb] at hr'; exact absurd hr'.symm hne
    | some r=>
     rw [hb] at hr'
     simp only [mapO,zf8] at hr'
     obtain ⟨k1,k2,rfl,rfl,rfl⟩:=zjl (v0:=fun n=>.sl n 0 a a true) hr'
     obtain ⟨g1,g2⟩:=zdr hl
     have hbig:(2:Nat) ^ 24=16777216:=by decide
     have htop:a * i.size≤top:=by unfold top; omega
     have hz0:RelT ρ (zfw z i.size a) ((Array.range (a * i.size)).map (zv.cells[· % zv.cells.size]!)) (a * i.size):=by
      have hro:=zfr (e:=et) (c:=a) (z4 ρ) o1 o2 (by omega)
      obtain ⟨c,e',fz,k1,_,k3⟩:=zbd hro
      cases k1
      refine ⟨by simp,fun j hj=>?_⟩
      obtain ⟨v,v1,v2,v3,_⟩:=k3 j hj
      exact ⟨v,by rwa [Nat.zero_add] at v1,v2,v3⟩
     obtain ⟨c',f1,f2⟩:=zhy (f:=ac.eval) htop ps os.toList _ _ r g1 (fun j hj hk=>by
      obtain ⟨p1,p2⟩:=g2 j hj hk
      exact ⟨p1,hf _ (hmem j hk) _ p2⟩) hz0 hb
     refine ⟨_,.cells c' et,(i.size,a * i.size),.slice (some ⟨w.heap.size,0,none⟩) a a,k1,rfl,rfl,?_,fun σ hσ _=>?_,zj4 (s:=Instr.buildSlice t a (os.map fun (i,x)=>(i,ac.eval x))) (by simp only [execOp,hop]) ?_,_,_,_,rfl⟩
     ·refine ⟨⟨fun _=>by rw [f2.1],.inl rfl⟩,by omega,fun j hj=>?_⟩
      obtain ⟨v,v1,v2,v3⟩:=f2.2 j hj
      exact ⟨v,by rw [Nat.zero_add]; exact v1,v2,v3,by simp only; omega⟩
     ·simp only [rel]
      exact ⟨w.heap.size,0,0,a,hσ,rfl,Nat.le_refl _,Nat.le_refl _,fun _=>rfl,.inl rfl,fun h=>by cases h⟩
     have hle:¬ (a * i.size > 2 ^ 24):=by omega
     have hfill:∀ zz:Array Value,(a * i.size=0∨zz=zv.cells)→Instr.fill (fun j=>some (j * i.size,i.size)) ((Array.range (a * i.size)).map (zz[· % zz.size]!)) (os.map fun (i,x)=>(i,ac.eval x)).toList=some c':=by
      intro zz hzz
      rw [Array.toList_map]
      rcases hzz with h0 | rfl
      ·have e0:∀ g:Nat→Value,(Array.range 0).map g=#[]:=fun g=>by simp
       rw [← f1,h0,e0,e0]
      ·exact f1
     simp only [Instr.buildSlice,Sem.run_bind,zac (hT.und hu (by simp)).1,Result.andThen_ok,zaw z2,if_neg hle]
     by_cases h0:a * i.size=0
     ·simp only [if_pos h0,Sem.run_pure,Result.andThen_ok,hfill #[] (.inl h0),za9,Sem.run_bind]
     ·simp only [if_neg h0,Sem.run_bind,zbj z2 z3,Sem.run_pure,Result.andThen_ok,hfill zv.cells (.inr rfl),za9]
 | _=>rw [hu] at hr; revert hr; cases zcw ds os.toList<;>intro hr<;>exact absurd hr.symm hne
theorem z01 {t:TypeId} {a:Nat} {os:Array (Nat × Operand)} (hT:TbOk P tb) (hop:o.op=.buildSlice t a os) (ho:∀ et,und tb t=.slice et→isU8 tb et=true∧∃ i,tb.types.get (et + 1)=some i∧i.zero=some (.int .u8 0)∧i.size=1∧a≤2 ^ 24):zle P tb o:=by
 intro ds ls e ac ρ n w call h v h' n' hf _ hr
 refine .inl ?_
 have hne:(RR.fin v h' n')≠.fail:=by simp
 rw [hop] at hr
 simp only [zbb] at hr
 have hmem:∀ j (hk:j < os.toList.length),(os.toList[j]'hk).2 ∈ o.op.operands:=by
  intro j hk
  rw [hop]
  simp only [Op.operands]
  simp only [List.mem_toArray,List.mem_map]
  exact ⟨os.toList[j],List.getElem_mem _,rfl⟩
 cases hu:und tb t with
 | slice et=>
  obtain ⟨h8,i,hget,hz0,hsz,hbd⟩:=ho et hu
  cases hl:zcw ds os.toList with
  | none=>rw [hu,hl] at hr; exact absurd hr.symm hne
  | some ps=>
   rw [hu,hl] at hr
   simp only at hr
   cases hz:zb4 tb et with
   | none=>rw [hz] at hr; exact absurd hr.symm hne
   | some z=>
    rw [hz] at hr
    simp only at hr
    rw [h8,cond_true] at hr
    have z2:=hT.info _ _ hget
    have hr':zf8 a a (mapO (.bytes a) (zkn ls e a ps 0)) h n finK=.fin v h' n':=hr
    cases hb:zkn ls e a ps 0 with
    | none=>rw [hb] at hr'; exact absurd hr'.symm hne
    | some r=>
     rw [hb] at hr'
     simp only [mapO,zf8] at hr'
     obtain ⟨k1,k2,rfl,rfl,rfl⟩:=zjl (v0:=fun n=>.sl n 0 a a true) hr'
     obtain ⟨g1,g2⟩:=zdr hl
     have hbig:(2:Nat) ^ 24=16777216:=by decide
     have hzz:RelB 0 ((Array.range (a * 1)).map ((Value.int .u8 0).cells[· % (Value.int .u8 0).cells.size]!)) a:=by
      refine ⟨by simp,List.replicate a 0,zdv a,fun j hj=>?_⟩
      have hro:=zk6 (ρ:=ρ) (e:=et) (c:=a) (zs:=(Value.int .u8 0).cells) rfl (by omega)
      obtain ⟨_,_,l,k1,k2⟩:=hro
      have hll:=znh k1 (zdv a)
      subst hll
      have:=(k2 j hj).1
      rwa [Nat.zero_add] at this
     obtain ⟨c',f1,f2⟩:=zko (f:=ac.eval) (ρ:=ρ) ps os.toList _ _ r g1 (fun j hj hk=>by
      obtain ⟨p1,p2⟩:=g2 j hj hk
      exact ⟨p1,hf _ (hmem j hk) _ p2⟩) hzz hb
     refine ⟨_,.cells c' et,(1,a),.slice (some ⟨w.heap.size,0,none⟩) a a,k1,rfl,rfl,?_,fun σ hσ _=>?_,zj4 (s:=Instr.buildSlice t a (os.map fun (i,x)=>(i,ac.eval x))) (by simp only [execOp,hop]) ?_,_,_,_,rfl⟩
     ·obtain ⟨q1,l,q2,q3⟩:=f2
      exact ⟨⟨by rw [q1],.inl rfl⟩,by omega,l,q2,fun j hj=>⟨by rw [Nat.zero_add]; exact q3 j hj,by simp only; omega⟩⟩
     ·simp only [rel]
      exact ⟨w.heap.size,0,0,a,hσ,rfl,Nat.le_refl _,Nat.le_refl _,fun _=>rfl,.inl rfl,fun h=>by cases h⟩
     have hle:¬ (a * 1 > 2 ^ 24):=by omega
     have hfill:∀ zz:Array Value,(a * 1=0∨zz=(Value.int .u8 0).cells)→Instr.fill (fun j=>some (j * 1,1)) ((Array.range (a * 1)).map (zz[· % zz.size]!)) (os.map fun (i,x)=>(i,ac.eval x)).toList=some c':=by
      intro zz hzz
      rw [Array.toList_map]
      rcases hzz with h0 | rfl
      ·have e0:∀ g:Nat→Value,(Array.range 0).map g=#[]:=fun g=>by simp
       rw [← f1,h0,e0,e0]
      ·exact f1
     simp only [Instr.buildSlice,Sem.run_bind,zac (hT.und hu (by simp)).1,Result.andThen_ok,zaw z2,hsz,if_neg hle]
     by_cases h0:a * 1=0
     ·simp only [if_pos h0,Sem.run_pure,Result.andThen_ok,hfill #[] (.inl h0),za9,Sem.run_bind]
     ·simp only [if_neg h0,Sem.run_bind,zbj z2 hz0,Sem.run_pure,Result.andThen_ok,hfill _ (.inr rfl),za9]
 | _=>rw [hu] at hr; revert hr; cases zcw ds os.toList<;>intro hr<;>exact absurd hr.symm hne
theorem z05 {s d:TypeId} {x:Operand} (hT:TbOk P tb) (hop:o.op=.convert s d x) (hs:∃ et,und tb s=.slice et) (hd:∃ et,und tb d=.slice et):zle P tb o:=by
 intro ds ls e a ρ n w call h v h' n' hf _ hr
 refine .inr (.inr ?_)
 have hne:(RR.fin v h' n')≠.fail:=by simp
 obtain ⟨et,hs⟩:=hs
 obtain ⟨ed,hd⟩:=hd
 rw [hop] at hr
 simp only [zbb] at hr
 rw [hs,hd] at hr
 simp only at hr
 cases h8:s == d && isU8 tb ed with
 | false=>rw [h8] at hr; exact absurd hr.symm hne
 | true=>
  rw [h8,cond_true] at hr
  obtain ⟨h9,h10⟩:=Bool.and_eq_true_iff.1 h8
  have hsd:s=d:=by simpa using h9
  have hee:et=ed:=by rw [hsd,hd] at hs; cases hs; rfl
  obtain ⟨u,h1,hk⟩:=za7 hr hne
  have hx:=hf x (by rw [hop]; simp [Op.operands]) u h1
  have hk':zy8 (u ls e) h n finK=.fin v h' n':=hk
  generalize hy:u ls e=y at hk' hx
  cases y<;>try exact absurd hk'.symm hne
  rename_i b off len cap ex
  have hx0:=hx
  simp only [rel] at hx
  obtain ⟨r,z,f,c,g1,g2,_⟩:=hx
  simp only [zy8] at hk'
  cases hb:getO h b with
  | none=>rw [hb] at hk'; exact absurd hk'.symm hne
  | some ao=>
   rw [hb] at hk'
   cases ao with
   | cells _ _ _=>exact absurd hk'.symm hne
   | map _=>exact absurd hk'.symm hne
   | var _ _ _=>exact absurd hk'.symm hne
   | rowb _ _ _ _=>exact absurd hk'.symm hne
   | bytes m y=>
    simp only [z1m] at hk'
    obtain ⟨_,hk'⟩:=zab hk' hne
    injection (show RR.fin (.sl b off len cap ex) h n=.fin v h' n' from hk') with e1 e2 e3
    subst e1
    refine ⟨s,d,x,b,off,len,cap,ex,r,z,a.eval x,hop,⟨u,h1,hy⟩,rfl,e2.symm,e3.symm,hx0,g1,fun c0 et' fz hw=>zj4 (s:=convert s d (a.eval x)) (by simp only [execOp,hop]) ?_⟩
    subst hsd
    rw [g2]
    have hsh:w.shape? r=some (et',c0.size):=by simp only [World.shape?,hw]
    have he:P.underlying et=some (.int .u8):=by rw [hee]; exact (hT.und (zor h10) (by simp)).1
    simp only [convert,Sem.run_bind,zac (hT.und hs (by simp)).1,zac he,Result.andThen_ok,beq_self_eq_true,markStringish,run_shape,hsh,run_freeze,Sem.run_pure]
theorem zvm (hT:TbOk P tb) (h:zk3 tb o.op=true) (hk:zjn tb o.op=true):zle P tb o:=by
 cases hop:o.op<;>rw [hop] at h hk<;>first | (exact absurd (show false=true from hk) (by decide)) | skip
 case alloc t=>
  have h:zfd tb t=true:=by simpa [zk3,zjv,zs8] using h
  unfold zfd at h
  rw [Bool.and_eq_true] at h
  refine zol hT hop (fun n e hu h8=>?_) (zkb h.1)
  have h2:=h.2
  rw [hu] at h2
  simp only at h2
  rw [h8,cond_true] at h2
  cases hg:tb.types.get (t + 1) with
  | none=>rw [hg] at h2; cases h2
  | some i=>
   rw [hg] at h2
   simp only at h2
   cases hz:i.zero with
   | none=>rw [hz] at h2; cases h2
   | some z=>rw [hz] at h2; exact ⟨i,rfl,by rw [hz,zkx h2]⟩
 case buildSlice t a os=>
  have h:zhx tb t a=true:=by simpa [zk3,zjv,zs8] using h
  have hbig:(2:Nat) ^ 24=16777216:=by decide
  simp only [zjn] at hk
  by_cases hu8:∃ et,und tb t=.slice et∧isU8 tb et=true
  ·obtain ⟨et,hu,h8⟩:=hu8
   refine z01 hT hop fun et' hu'=>?_
   rw [hu] at hu'; cases hu'
   unfold zhx at h
   rw [hu] at h
   simp only at h
   cases hg:tb.types.get (et + 1) with
   | none=>rw [hg] at h; cases h
   | some i=>
    rw [hg] at h
    simp only at h
    rw [h8,cond_true] at h
    cases hz:i.zero with
    | none=>rw [hz] at h; cases h
    | some z=>
     rw [hz] at h
     simp only [Bool.and_eq_true] at h
     exact ⟨h8,i,rfl,by rw [hz,zjs h.1.1],zak h.1.2,by rw [hbig]; exact Nat.le_of_ble_eq_true h.2⟩
  have h8:∀ et,und tb t=.slice et→isU8 tb et=false:=fun et hu=>by
   cases hh:isU8 tb et with
   | false=>rfl
   | true=>exact absurd ⟨et,hu,hh⟩ hu8
  refine ziq hT hop h8 fun et z i hu hz hg=>?_
  unfold zhx at h
  rw [hu] at h
  simp only at h
  rw [hg] at h
  simp only at h
  rw [h8 et hu,cond_false,hz] at h
  simp only [Bool.and_eq_true] at h
  exact ⟨h.1.1,zak h.1.2,by rw [hbig]; exact Nat.le_of_ble_eq_true h.2⟩
 case convert s d x=>
  simp only [zjn] at hk
  cases hs:und tb s with
  | slice et=>
   cases hd:und tb d with
   | slice ed=>exact z05 hT hop ⟨et,hs⟩ ⟨ed,hd⟩
   | _=>rw [hs,hd] at hk; cases hk
  | _=>rw [hs] at hk; cases hk
end
end
end Go.VE
namespace Go.VE
noncomputable section
open Go
section
variable {P:Program} {ρ:Mp} {h:H} {n:Nat} {w:World} {k:K} {rr:RR} {st xt et tt:TypeId} {ei:TypeInfo}
theorem zfs {j:IntKind} {a:Int}:(Go.asInt (.int j a)).run P w=.ok a w:=by simp [Go.asInt,Go.asIntOf]
def zC (z:Value) (size a:Nat):Array Value:=if a * size=0 then #[] else Builtin.zeroCells z.cells a
theorem zxg (hs:P.underlying st=some (.slice et)) (hin:P.info? et=some ei) {kd:IntKind} (hx:P.underlying xt=some (.int kd)) {z:Value} (hz:ei.zero=some z) {a:Nat} {j:IntKind} (ha:a < 16777216) (hab:a * ei.bytes≤140737488355328):
  Way P w et ei.size ei.bytes z (fun s=>Builtin.append_ #[st,xt] tt #[s,.int j a]) (fun _ c=>c=zC z ei.size a) a:=by
 have hw:=zmg (a:=a) (by omega)
 have hb:¬ (281474976710656 < (a:Int) * (ei.bytes:Int)):=by
  have:((a * ei.bytes:Nat):Int)=(a:Int) * (ei.bytes:Int):=by simp
  omega
 have hn0:¬ ((a:Int) < 0):=by omega
 refine ⟨fun h0=>?_,fun b len cap c w' h1 h2 h3=>?_,fun base len cap c1 c2 h1 h2 h3 h4 h5=>?_⟩
 ·subst h0
  have hw0:IntKind.i64.wrap 0=0:=by simpa using hw
  simp [Builtin.append_,zac hs,zac hx,zaw hin,zch hin,zfs,hw0]
 ·subst h1
  unfold zC at h3
  by_cases h0:a * ei.size=0
  ·rw [if_pos h0] at h3
   simp [Builtin.append_,zac hs,zac hx,zaw hin,zch hin,zfs,hw,hn0,hb,h2,h0,h3]
  ·rw [if_neg h0] at h3
   simp [Builtin.append_,zac hs,zac hx,zaw hin,zch hin,zfs,hw,hn0,hb,h2,h0,zbj hin hz,h3]
 ·subst h5
  have hbig:¬ (281474976710656 < Builtin.nextslicecap (len + a) cap * ei.bytes):=by have:=growslice_fits h1 h2; omega
  have hnle:¬ (len + a≤cap):=by omega
  have h63:¬ (9223372036854775807 < ((len:Int) + (a:Int))):=by omega
  unfold zC
  by_cases h0:a * ei.size=0
  ·simp [Builtin.append_,zac hs,zac hx,zaw hin,zch hin,zfs,hw,hn0,hb,hnle,h63,hbig,h0,Question.forced,zgh,h4,zbj hin hz,za9,grownCap]
  ·simp [Builtin.append_,zac hs,zac hx,zaw hin,zch hin,zfs,hw,hn0,hb,hnle,h63,hbig,h0,Question.forced,zgh,h4,zbj hin hz,za9,grownCap]
theorem zwv {z:Value} {l:AV} {size a:Nat} (hl:relL ρ l z.cells.toList) (ho:okCs l=true) (hs:lenC l=size) (hle:a * size≤140737488355328):zim ρ size a (.vs (a * size) 0 (zfw l size a)) (zC z size a):=by
 have hzs:z.cells.size=size:=by rw [← hs,zbz (zal hl) hl]; simp
 have hro:=zfr (e:=0) (c:=a) hl ho hs hle
 obtain ⟨c,e',fz,k1,_,k3⟩:=zbd hro
 cases k1
 have hsz:(zC z size a).size=a * size:=by
  unfold zC
  split
  ·rename_i h0; simp [h0]
  ·rw [zde,hzs]
 refine ⟨hsz,rfl,fun j hj=>?_⟩
 obtain ⟨v,v1,v2,v3,_⟩:=k3 j hj
 rw [Nat.zero_add] at v1 ⊢
 refine ⟨v,?_,v2,v3⟩
 have h0:¬ (a * size=0):=by omega
 unfold zC
 rw [if_neg h0]
 unfold Builtin.zeroCells
 rw [hzs]
 rw [hzs] at v1
 exact v1
theorem zui {z:Value} {a:Nat} (hz:z.cells=#[.int .u8 0]) (hle:a≤140737488355328):zim ρ 1 a (.bs a 0) (zC z 1 a):=by
 have hsz:(zC z 1 a).size=a * 1:=by
  unfold zC
  split
  ·rename_i h0; simp [h0]
  ·rw [zde,hz]; rfl
 refine ⟨hsz,rfl,rfl,List.replicate a 0,zdv a,fun j hj=>?_⟩
 simp only [List.length_replicate] at hj
 have h0:¬ (a * 1=0):=by omega
 unfold zC
 rw [if_neg h0]
 unfold Builtin.zeroCells
 rw [hz]
 simp [hj,Nat.mod_one]
theorem zpe (hi:Inv ρ h n w) (hne:rr≠.fail) (hs:P.underlying st=some (.slice et)) (hin:P.info? et=some ei) {kd:IntKind} (hxt:P.underlying xt=some (.int kd)) {z:Value} (hz:ei.zero=some z) {u8:Bool} {l:AV}
  (hl:u8=false→relL ρ l z.cells.toList∧okCs l=true∧lenC l=ei.size) (h8:u8=true→z.cells=#[.int .u8 0]∧ei.size=1) {x y:AV} {rx ry:Value} (hx:rel ρ x rx) (hy:rel ρ y ry)
  (hsz:∀ a:Nat,a < 16777216→a * ei.size≤140737488355328)
  (e:(asInt y fun kd a=>br (Nat.blt a 16777216) (br (Nat.blt a (hiN kd)) (zev ei.size ei.bytes x a (br u8 (.bs a 0) (.vs (a * ei.size) 0 (zfw l ei.size a))) h n k) .fail) .fail)=rr):
  Val P (Builtin.append_ #[st,xt] tt #[rx,ry]) ρ h n w k rr:=by
 obtain ⟨kn,a,rfl,e1⟩:=zbt e hne
 obtain ⟨h1,e2⟩:=zab e1 hne
 obtain ⟨h2,e3⟩:=zab e2 hne
 rw [Nat.blt_eq] at h1 h2
 obtain ⟨j,_,rfl⟩:=zeg hi hne hy h2
 have hab:a * ei.bytes≤140737488355328:=by
  cases x<;>try exact absurd e3.symm hne
  case nils=>
   simp only [zev,zay] at e3
   by_cases h0:Nat.beq a 0=true
   ·rw [Nat.beq_eq] at h0; rw [h0]; omega
   ·rw [if_neg h0,← zay,← zay] at e3
    obtain ⟨_,e4⟩:=zab e3 hne
    obtain ⟨h5,_⟩:=zab e4 hne
    rwa [Nat.ble_eq] at h5
  case sl b off len cap ex=>
   obtain ⟨_,e4⟩:=zab e3 hne
   obtain ⟨h5,_⟩:=zab e4 hne
   rw [Nat.ble_eq] at h5
   exact Nat.le_trans (Nat.mul_le_mul_right _ (by omega)) h5
 have hzs:z.cells.size=ei.size:=by
  cases u8 with
  | true=>obtain ⟨g1,g2⟩:=h8 rfl; rw [g1,g2]; rfl
  | false=>
   obtain ⟨g1,g2,g3⟩:=hl rfl
   rw [← g3,zbz (zal g1) g1]; simp
 have hsrc:Src ρ w ei.size (fun _ c=>c=zC z ei.size a) a (br u8 (.bs a 0) (.vs (a * ei.size) 0 (zfw l ei.size a))):=by
  refine ⟨fun w' _=>⟨_,rfl,?_⟩⟩
  cases u8 with
  | true=>
   obtain ⟨g1,g2⟩:=h8 rfl
   rw [zb2,g2]
   exact zui g1 (by omega)
  | false=>
   obtain ⟨g1,g2,g3⟩:=hl rfl
   rw [zbe]
   exact zwv g1 g2 g3 (hsz a h1)
 exact zj9 (f:=fun s=>Builtin.append_ #[st,xt] tt #[s,.int j a]) hi hne hzs hx hsrc (zxg hs hin hxt hz h1 hab) e3
end
section
variable {P:Program} {tb:Tb} {o:Oper}
def zlj (tb:Tb) (ats:Array TypeId):Bool:=Nat.beq ats.size 2 && (match und tb (ats.getD 1 0) with | .int _=>true | _=>false) && (match und tb (ats.getD 0 0) with
 | .slice e=>(match tb.types.get (e + 1) with
  | some i=>bif isU8 tb e then (match i.zero with | some z=>isZ8 z && Nat.beq i.size 1 | none=>false)
   else (match zb4 tb e with | some z=>okCs z && Nat.beq (lenC z) i.size && Nat.ble i.size 4096 | none=>true)
  | none=>false)
 | _=>true)
theorem zyd {c:Call} (hT:TbOk P tb) (hop:o.op=.call c) (hcb:c.callee=.builtin .append) (h:zlj tb c.argTypes=true):OpOk P tb o:=by
 unfold zlj at h
 rw [Bool.and_eq_true,Bool.and_eq_true] at h
 obtain ⟨⟨h0,h1⟩,h2⟩:=h
 rw [Nat.beq_eq] at h0
 intro ds ls e a ρ h' n w call k rr Q hc hf hi hr hne
 have hr':=zby hop hcb hr hne
 obtain ⟨x,y,hl⟩:=zme hr' hne (.inl rfl)
 rw [hl] at hr'
 simp only [za2] at hr'
 have hx:=zb5 hop hcb (x:=x) (by rw [hl]; simp)
 have hy:=zb5 hop hcb (x:=y) (by rw [hl]; simp)
 have hat:c.argTypes=#[c.argTypes.getD 0 0,c.argTypes.getD 1 0]:=by
  apply Array.ext
  ·simp [h0]
  ·intro i h1 h2
   simp at h2
   rcases i with _ | _ | i
   ·simp [Array.getElem?_eq_getElem (show 0 < c.argTypes.size by omega)]
   ·simp [Array.getElem?_eq_getElem (show 1 < c.argTypes.size by omega)]
   ·omega
 cases hu:und tb (c.argTypes.getD 0 0) with
 | slice et=>
  rw [hu] at hr' h2
  simp only at hr' h2
  cases hg:tb.types.get (et + 1) with
  | none=>rw [hg] at hr'; exact absurd hr'.symm hne
  | some i=>
   cases hzl:zb4 tb et with
   | none=>rw [hg,hzl] at hr'; exact absurd hr'.symm hne
   | some z=>
    rw [hg,hzl] at hr'
    rw [hg] at h2
    simp only at hr' h2
    cases hu1:und tb (c.argTypes.getD 1 0) with
    | int kd=>
     rw [hu1] at hr'
     obtain ⟨s,u,g1,g2,hk⟩:=zb9 hr' hne
     have hzero:∃ zv,i.zero=some zv:=by
      unfold zb4 at hzl
      cases hza:zhr tb et with
      | none=>rw [hza] at hzl; cases hzl
      | some z'=>
       obtain ⟨i',zv,g1,_,g3,_⟩:=ze8 hT hza
       rw [hg] at g1; cases g1
       exact ⟨zv,g3⟩
     obtain ⟨zv,hzv⟩:=hzero
     refine zck hop hcb (s:=Builtin.append_ #[c.argTypes.getD 0 0,c.argTypes.getD 1 0] o.type #[a.eval x,a.eval y]) (fun consts=>?_)
      (zpe hi hne (hT.und hu (by simp)).1 (hT.info _ _ hg) (hT.und hu1 (by simp)).1 hzv (u8:=isU8 tb et) (l:=z) (fun h8=>?_) (fun h8=>?_) (hf x hx s g1) (hf y hy u g2) (fun b hb=>?_) hk)
     ·rw [zn2 hl,← hat]; rfl
     ·rw [h8,cond_false,hzl] at h2
      simp only [Bool.and_eq_true] at h2
      obtain ⟨i',zv',z1,z2,z3,z4⟩:=zee hT hzl h2.1.1
      rw [hg] at z1; cases z1
      rw [hzv] at z3; cases z3
      exact ⟨z4 ρ,h2.1.1,zak h2.1.2⟩
     ·rw [h8,cond_true,hzv] at h2
      simp only [Bool.and_eq_true] at h2
      rw [zjs h2.1]
      exact ⟨rfl,zak h2.2⟩
     ·have hs:i.size≤4096:=by
       cases h8:isU8 tb et with
       | true=>
        rw [h8,cond_true,hzv] at h2
        simp only [Bool.and_eq_true] at h2
        have:=zak h2.2; omega
       | false=>
        rw [h8,cond_false,hzl] at h2
        simp only [Bool.and_eq_true] at h2
        exact Nat.le_of_ble_eq_true h2.2
      exact Nat.le_trans (Nat.mul_le_mul (Nat.le_of_lt hb) hs) (by decide)
    | _=>rw [hu1] at h1; cases h1
 | _=>rw [hu] at hr'; exact absurd hr'.symm hne
end
end
end Go.VE
namespace Go.VE
noncomputable section
open Go
def zo2 (tb:Tb) (o:Op):Bool:=zk3 tb o || (match o with
 | .call c=>(match c.callee with | .builtin .append=>zlj tb c.argTypes | _=>false)
 | _=>false)
theorem zrj {P:Program} {tb:Tb} (hT:TbOk P tb) {o:Oper} (h:zo2 tb o.op=true):zkc P tb o:=by
 unfold zo2 at h
 rw [Bool.or_eq_true] at h
 rcases h with h | h
 ·exact ⟨ztu hT h,fun hk=>zvm hT h hk⟩
 ·cases hop:o.op with
  | call c=>
   rw [hop] at h
   simp only at h
   refine ⟨?_,fun hk=>by rw [hop] at hk; cases hk⟩
   cases hc:c.callee with
   | builtin b=>
    rw [hc] at h
    cases b with
    | append=>exact zyd hT hop hc h
    | _=>cases h
   | _=>rw [hc] at h; cases h
  | _=>rw [hop] at h; cases h
def zej (tb:Tb):Code→Bool
 | .region _ ops _=>ops.toList.all fun o=>zo2 tb o.op
 | .seq a b | .cond _ a b | .rangeFunc _ _ a b=>zej tb a && zej tb b
 | .block _ b | .loop b | .scope b=>zej tb b
 | _=>true
theorem zbv {P:Program} {tb:Tb} (hT:TbOk P tb):∀ (c:Code),zej tb c=true→zgw (zkc P tb) c
 | .region _ ops _,h=>fun o ho=>by
  simp only [zej,List.all_eq_true] at h
  exact zrj hT (h o ho)
 | .seq a b,h=>by
  simp only [zej,Bool.and_eq_true] at h
  exact ⟨zbv hT a h.1,zbv hT b h.2⟩
 | .cond _ a b,h=>by
  simp only [zej,Bool.and_eq_true] at h
  exact ⟨zbv hT a h.1,zbv hT b h.2⟩
 | .rangeFunc _ _ a b,h=>by
  simp only [zej,Bool.and_eq_true] at h
  exact ⟨zbv hT a h.1,zbv hT b h.2⟩
 | .block _ b,h=>zbv hT b h
 | .loop b,h=>zbv hT b h
 | .scope b,h=>zbv hT b h
 | .skip,_ | .exit _,_ | .label _,_ | .goto _,_ | .ret,_ | .refuse _,_=>trivial
def zsn (tb:Tb) (fn:Func):Bool:=match fn.body with
 | some c => rfOk true c && zco tb c && zej tb c && !(fn.name == "runtime.NumGoroutine")
 | none=>false
def zi0 (tb:Tb) (fn:Func):Bool:=match fn.body with
 | some c => zco tb c && zej tb c && !(fn.name == "runtime.NumGoroutine")
 | none=>false
theorem zy2 {P:Program} {tb:Tb} (hT:TbOk P tb) {it:zrz} (h:∀ g lg,it g=some lg→∃ fn,P.funcs[g]?=some fn∧ztf tb fn=some lg∧zi0 tb fn=true):zkk P tb it:=by
 intro g lg hg
 obtain ⟨fn,h1,h2,h3⟩:=h g lg hg
 unfold zi0 at h3
 cases hb:fn.body with
 | none=>rw [hb] at h3; cases h3
 | some c=>
  rw [hb] at h3
  simp only [Bool.and_eq_true,Bool.not_eq_true'] at h3
  exact ⟨fn,c,h1,hb,h3.2,h2,zbv hT c h3.1.2,h3.1.1⟩
theorem cx_ok {P:Program} {tb:Tb} (hT:TbOk P tb) {cx:Cx} (hcode:∀ f lf,cx.code f=some lf→∃ fn,P.funcs[f]?=some fn∧lowF tb fn=some lf∧zsn tb fn=true) (hiter:zkk P tb cx.iter)
  (hintr:∀ f i,cx.intr f=some i→∀ (args:List AV) (h:H) (n:Nat) (k:K) (rr:RR),i args h n k=rr→rr≠.fail→CallLaw P f args h n k rr):CxOk P tb cx:=by
 refine ⟨fun f lf hf=>?_,hiter,hintr⟩
 obtain ⟨fn,h1,h2,h3⟩:=hcode f lf hf
 unfold zsn at h3
 cases hb:fn.body with
 | none=>rw [hb] at h3; cases h3
 | some c=>
  rw [hb] at h3
  simp only [Bool.and_eq_true,Bool.not_eq_true'] at h3
  exact ⟨fn,c,h1,hb,h3.2,h2,h3.1.1.1,zbv hT c h3.1.2,h3.1.1.2⟩
end
end Go.VE
