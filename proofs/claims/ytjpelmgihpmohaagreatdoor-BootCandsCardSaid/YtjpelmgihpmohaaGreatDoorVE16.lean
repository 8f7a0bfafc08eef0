/- The evaluator, part 16: definitions and their laws, over any program. No condition. -/
import Derived.Lib.MakeNoZero
import Derived.Lib.Bytealg
import Derived.Test.YtjpelmgihpmohaaGreatDoorVE15
set_option linter.all false
namespace Go.VE
noncomputable section
open Go
def zcd (P:Program) (f:Nat) (e:Array Value→Sem Value):Prop:=∀ (args:Array Value) (w:World),(callFunc f args).run P w=((e args).run P w).andThen fun v w'=>.ok (.value v) w'
theorem zcj {P:Program} {f:Nat} {e:Array Value→Sem Value} (hE:zcd P f e) {args:List AV} {h:H} {n:Nat} {k:K} {rr:RR} (hv:∀ (ρ:Mp) (w:World) (as:List Value),Inv ρ h n w→relS ρ args as→Val P (e as.toArray) ρ h n w k rr):CallLaw P f args h n k rr:=
 .inr fun ρ w as hi ha=>by
  obtain ⟨v,h',n',σ,w',rv,g1,g2,g3,g4⟩:=hv ρ w as hi ha
  exact ⟨rv,w',by rw [hE,g2]; rfl,v,h',n',σ,g1,g3,g4⟩
theorem zit {ρ:Mp} {a:AV} {as:List Value} (h:relS ρ [a] as):∃ v,as=[v]∧rel ρ a v:=by
 simp only [relS] at h
 obtain ⟨v,_,rfl,h1,rfl⟩:=h
 exact ⟨v,rfl,h1⟩
theorem zrm {ρ:Mp} {a b:AV} {as:List Value} (h:relS ρ [a,b] as):∃ v u,as=[v,u]∧rel ρ a v∧rel ρ b u:=by
 simp only [relS] at h
 obtain ⟨v,_,rfl,h1,u,_,rfl,h2,rfl⟩:=h
 exact ⟨v,u,rfl,h1,h2⟩
def idxB (n x c f:Nat):Nat→Nat:=@Nat.rec (fun _=>Nat→Nat) (fun _=>18446744073709551615) (fun _ go i=>br (Nat.beq (zar n x i) c) i (frc (i + 1) go)) f
def cntB (n x c f:Nat):Nat→Nat→Nat:=@Nat.rec (fun _=>Nat→Nat→Nat) (fun _ acc=>acc) (fun _ go i acc=>frc (i + 1) fun j=>br (Nat.beq (zar n x i) c) (frc (acc + 1) (go j)) (go j acc)) f
def cmpB (n x m y f:Nat):Nat→Nat:=@Nat.rec (fun _=>Nat→Nat) (fun _=>br (Nat.blt n m) 18446744073709551615 (br (Nat.blt m n) 1 0))
 (fun _ go i=>br (Nat.blt (zar n x i) (zar m y i)) 18446744073709551615 (br (Nat.blt (zar m y i) (zar n x i)) 1 (frc (i + 1) go))) f
def kInt (k:K) (h:H) (n:Nat) (u:Nat):RR:=frc u fun u=>k (.int 3 u) h n
def iIdx:List AV→H→Nat→K→RR
 | [.str n x,.int 4 c],h,m,k=>br (Nat.blt n 9223372036854775808) (kInt k h m (idxB n x c n 0)) .fail
 | _,_,_,_=>.fail
def iCnt:List AV→H→Nat→K→RR
 | [.str n x,.int 4 c],h,m,k=>br (Nat.blt n 9223372036854775808) (kInt k h m (cntB n x c n 0 0)) .fail
 | _,_,_,_=>.fail
def iCmp:List AV→H→Nat→K→RR
 | [.str n x,.str j y],h,m,k=>kInt k h m (cmpB n x j y (Nat.min n j) 0)
 | _,_,_,_=>.fail
theorem zs6 (n x c f i:Nat):idxB n x c (f + 1) i=br (Nat.beq (zar n x i) c) i (frc (i + 1) (idxB n x c f)):=rfl
theorem zsd (n x c f i acc:Nat):cntB n x c (f + 1) i acc=frc (i + 1) fun j=>br (Nat.beq (zar n x i) c) (frc (acc + 1) (cntB n x c f j)) (cntB n x c f j acc):=rfl
theorem zsc (n x m y f i:Nat):cmpB n x m y (f + 1) i=br (Nat.blt (zar n x i) (zar m y i)) 18446744073709551615 (br (Nat.blt (zar m y i) (zar n x i)) 1 (frc (i + 1) (cmpB n x m y f))):=rfl
theorem zog:encI .i64 (-1)=18446744073709551615:=by decide
theorem zg4 {m:Nat} (h:m < 18446744073709551616):encI .i64 (m:Int)=m:=by
 unfold encI
 have:moN (zad .i64)=18446744073709551616:=rfl
 rw [this]; omega
theorem u8_eq {a b:UInt8}:a=b ↔ a.toNat=b.toNat:=UInt8.toNat_inj.symm
def upI (r:Int) (i:Nat):Int:=if r=-1 then -1 else r + i
theorem zs5 {l:List UInt8} {n x:Nat} (hp:zb6 l n x) (c:UInt8) (hn:n < 9223372036854775808):∀ (f i:Nat),i + f=n→encI .i64 (upI (Lib.indexByte (l.drop i) c) i)=idxB n x c.toNat f i
 | 0,i,h=>by
  have hl:=hp.1
  rw [List.drop_eq_nil_of_le (by omega)]
  exact zog
 | f + 1,i,h=>by
  have hl:=hp.1
  have hil:i < l.length:=by omega
  rw [zs6,zam,List.drop_eq_getElem_cons hil,zdg hp (by omega),zay]
  have ih:=zs5 hp c hn f (i + 1) (by omega)
  by_cases hb:l[i]=c
  ·have e:Lib.indexByte (l[i] :: l.drop (i + 1)) c=0:=by simp [Lib.indexByte,hb]
   rw [if_pos (by rw [hb]; exact Nat.beq_refl _),e]
   show encI .i64 (if (0:Int)=-1 then -1 else 0 + (i:Int))=i
   rw [if_neg (by decide),Int.zero_add,zg4 (by omega)]
  ·have hb':¬ (Nat.beq l[i].toNat c.toNat=true):=fun e=>hb (u8_eq.2 (zak e))
   rw [if_neg hb',← ih]
   have hge:=Lib.indexByte_ge (l.drop (i + 1)) c
   have e:Lib.indexByte (l[i] :: l.drop (i + 1)) c=if Lib.indexByte (l.drop (i + 1)) c=-1 then -1 else Lib.indexByte (l.drop (i + 1)) c + 1:=by simp [Lib.indexByte,hb]
   rw [e]
   generalize Lib.indexByte (l.drop (i + 1)) c=r at hge
   congr 1
   unfold upI
   by_cases hr:r=-1
   ·simp [hr]
   ·rw [if_neg hr,if_neg (by omega),if_neg hr]
    push_cast; omega
theorem zoc {l:List UInt8} {n x:Nat} (hp:zb6 l n x) (c:UInt8):∀ (f i acc:Nat),i + f=n→cntB n x c.toNat f i acc=acc + Lib.countByte (l.drop i) c
 | 0,i,acc,h=>by
  have hl:=hp.1
  rw [List.drop_eq_nil_of_le (by omega)]
  show acc=acc + _
  simp [Lib.countByte]
 | f + 1,i,acc,h=>by
  have hl:=hp.1
  have hil:i < l.length:=by omega
  rw [zsd,zam,zam,List.drop_eq_getElem_cons hil,zdg hp (by omega),zay]
  unfold Lib.countByte
  rw [List.count_cons]
  by_cases hb:l[i]=c
  ·rw [if_pos (by rw [hb,Nat.beq_refl]),zoc hp c f (i + 1) _ (by omega)]
   simp [hb,Lib.countByte]; omega
  ·have hb':¬ (Nat.beq l[i].toNat c.toNat=true):=fun e=>hb (u8_eq.2 (zak e))
   rw [if_neg hb',zoc hp c f (i + 1) _ (by omega)]
   simp [hb,Lib.countByte]
theorem zsb {l k:List UInt8} {n x m y:Nat} (hp:zb6 l n x) (hq:zb6 k m y):∀ (f i:Nat),i + f=Nat.min n m→cmpB n x m y f i=encI .i64 (Lib.compareBytes (l.drop i) (k.drop i))
 | 0,i,h=>by
  have hl:=hp.1; have hk:=hq.1
  have hmin:i=min n m:=by simpa using h
  show br (Nat.blt n m) 18446744073709551615 (br (Nat.blt m n) 1 0)=_
  rw [zay,zay]
  rcases Nat.lt_trichotomy n m with h1 | h1 | h1
  ·rw [if_pos (by rw [Nat.blt_eq]; exact h1)]
   rw [List.drop_eq_nil_of_le (as:=l) (by omega),List.drop_eq_getElem_cons (l:=k) (i:=i) (by omega)]
   simp only [Lib.compareBytes]; rw [zog]
  ·rw [if_neg (by rw [Nat.blt_eq]; omega),if_neg (by rw [Nat.blt_eq]; omega)]
   rw [List.drop_eq_nil_of_le (as:=l) (by omega),List.drop_eq_nil_of_le (as:=k) (by omega)]
   rfl
  ·rw [if_neg (by rw [Nat.blt_eq]; omega),if_pos (by rw [Nat.blt_eq]; exact h1)]
   rw [List.drop_eq_nil_of_le (as:=k) (by omega),List.drop_eq_getElem_cons (l:=l) (i:=i) (by omega)]
   rfl
 | f + 1,i,h=>by
  have hl:=hp.1; have hk:=hq.1
  have hmin:i + (f + 1)=min n m:=by simpa using h
  rw [zsc,zam,zdg hp (by omega),zdg hq (by omega),zay,zay]
  rw [List.drop_eq_getElem_cons (l:=l) (i:=i) (by omega),List.drop_eq_getElem_cons (l:=k) (i:=i) (by omega)]
  simp only [Lib.compareBytes]
  have e1:(Nat.blt l[i].toNat k[i].toNat=true) ↔ l[i] < k[i]:=by rw [Nat.blt_eq]; exact UInt8.lt_iff_toNat_lt.symm
  have e2:(Nat.blt k[i].toNat l[i].toNat=true) ↔ k[i] < l[i]:=by rw [Nat.blt_eq]; exact UInt8.lt_iff_toNat_lt.symm
  by_cases h1:l[i] < k[i]
  ·rw [if_pos (e1.2 h1),if_pos h1,zog]
  ·rw [if_neg (fun h=>h1 (e1.1 h)),if_neg h1]
   by_cases h2:k[i] < l[i]
   ·rw [if_pos (e2.2 h2),if_pos h2]; rfl
   ·rw [if_neg (fun h=>h2 (e2.1 h)),if_neg h2]
    exact zsb hp hq f (i + 1) (by rw [← h]; omega)
section
variable {P:Program} {f:Nat} {args:List AV} {h:H} {n:Nat} {k:K} {rr:RR}
theorem zo8 {ρ:Mp} {u:Nat} {m:Int} (h1:encI .i64 m=u) (h2:-9223372036854775808≤m) (h3:m≤9223372036854775807):rel ρ (.int 3 u) (.int .i64 m):=by
 simp only [rel]
 exact ⟨.i64,m,rfl,rfl,h1.symm,h2,h3⟩
theorem zxz {ρ:Mp} {c:Nat} {v:Value} (h:rel ρ (.int 4 c) v):∃ m:Int,v=.int .u8 m∧m.toNat.toUInt8.toNat=c:=by
 simp only [rel] at h
 obtain ⟨kd,m,rfl,h1,rfl,h2,h3⟩:=h
 cases kd<;>first | (cases h1; done) | skip
 refine ⟨m,rfl,?_⟩
 have h2':(0:Int)≤m:=h2
 have h3':m≤255:=h3
 have hm:encI .u8 m=m.toNat:=by
  unfold encI
  have:moN (zad .u8)=256:=rfl
  rw [this]; omega
 rw [hm]
 show (UInt8.ofNat m.toNat).toNat=m.toNat
 rw [UInt8.toNat_ofNat']
 omega
def zyx:List AV→H→Nat→K→RR
 | [v],h,n,k=>k v h n
 | _,_,_,_=>.fail
theorem zs0 {P:Program} {f:Nat} {args:List AV} {h:H} {n:Nat} {k:K} {rr:RR} (hE:zcd P f Extern.AbiNoEscape.same) (hr:zyx args h n k=rr) (hne:rr≠.fail):CallLaw P f args h n k rr:=by
 refine zcj hE fun ρ w as hi ha=>?_
 unfold zyx at hr
 split at hr
 ·rename_i v
  obtain ⟨u,rfl,h1⟩:=zit ha
  exact .same hi hr rfl h1
 ·exact absurd hr.symm hne
def iMnz (ty:Nat):List AV→H→Nat→K→RR
 | [.int 3 m],h,n,k=>br (Nat.blt m 140737488355328) (alloc (.rowb ty m 0 0) h n fun h' n'=>k (.sl n 0 m m false) h' n') .fail
 | _,_,_,_=>.fail
theorem zvq {P:Program} {f ty t:Nat} {ps:Array TypeId} {args:List AV} {h:H} {n:Nat} {k:K} {rr:RR} (ht:P.underlying t=some (.slice ty)) (hE:zcd P f (Extern.BytealgMakeNoZero.makeNoZero ps #[t])) (hr:iMnz ty args h n k=rr) (hne:rr≠.fail):CallLaw P f args h n k rr:=by
 refine zcj hE fun ρ w as hi ha=>?_
 unfold iMnz at hr
 split at hr
 ·rename_i m
  obtain ⟨v,rfl,h1⟩:=zit ha
  obtain ⟨h2,hr⟩:=zab hr hne
  rw [Nat.blt_eq] at h2
  obtain ⟨kd,p,e1,rfl,e3,e4⟩:=zdc h1
  have hj:kd=.i64:=zeo (by rw [← e1]; rfl)
  subst hj
  have hpm:p=(m:Int):=by
   have:=zcu e4
   rw [← e3] at this
   have h6:=this.1.1 (by show m < 9223372036854775808; omega)
   have:=this.2 h6; omega
  subst hpm
  obtain ⟨cs,r1,r2,_⟩:=Lib.run_makeNoZero (P:=P) w ps t ty ht m (by omega)
  have hi':Inv ρ h n w.drew.drew:=hi.heap rfl
  obtain ⟨g1,g⟩:=zbp hi' hne (o:=.cells cs ty) (y:=(1,cs.size)) hr (fun _=>zho ⟨⟨rfl,.inl rfl⟩,by omega,[],zni,fun i hi=>by simp at hi⟩ (by omega))
  refine ⟨_,_,_,_,_,_,g1,r1,(Goes.heap hi (v:=w.drew.drew) rfl).trans g,?_⟩
  simp only [rel]
  refine ⟨w.heap.size,0,0,cs.size,Mp.ext_same _ _ _ _,rfl,Nat.le_refl _,r2,(fun h=>by cases h),.inl rfl,fun _=>.inr ?_⟩
  rw [Mp.ext_sameG]; simp
 ·exact absurd hr.symm hne
theorem zvp (hE:zcd P f Extern.BytealgIndexByte.indexByte) (hr:iIdx args h n k=rr) (hne:rr≠.fail):CallLaw P f args h n k rr:=by
 refine zcj hE fun ρ w as hi ha=>?_
 unfold iIdx at hr
 split at hr
 ·rename_i n' x c
  obtain ⟨hn,hr'⟩:=zab hr hne
  rw [Nat.blt_eq] at hn
  obtain ⟨v,u,rfl,h1,h2⟩:=zrm ha
  simp only [rel] at h1
  obtain ⟨s,rfl,hp⟩:=h1
  obtain ⟨m,rfl,rfl⟩:=zxz h2
  unfold kInt at hr'
  rw [zam] at hr'
  have hrun:=Lib.run_indexByteString (P:=P) s m w
  refine .same hi hr' hrun (zo8 ?_ ?_ ?_)
  ·have:=zs5 hp m.toNat.toUInt8 hn n' 0 (by omega)
   rw [List.drop_zero] at this
   rw [← this]
   have hge:=Lib.indexByte_ge s.data.toList m.toNat.toUInt8
   unfold upI
   split
   ·rename_i e; rw [e]
   ·simp
  ·have:=Lib.indexByte_ge s.data.toList m.toNat.toUInt8; omega
  ·have hlt:∀ l:List UInt8,Lib.indexByte l m.toNat.toUInt8≤l.length:=by
    intro l
    induction l with
    | nil=>simp [Lib.indexByte]
    | cons b l ih=>
     simp only [Lib.indexByte,List.length_cons]
     split
     ·omega
     ·split
      ·omega
      ·push_cast; omega
   have:=hlt s.data.toList
   have:=hp.1
   omega
 ·exact absurd hr.symm hne
theorem zvo (hE:zcd P f Extern.BytealgCount.count) (hr:iCnt args h n k=rr) (hne:rr≠.fail):CallLaw P f args h n k rr:=by
 refine zcj hE fun ρ w as hi ha=>?_
 unfold iCnt at hr
 split at hr
 ·rename_i n' x c
  obtain ⟨hn,hr'⟩:=zab hr hne
  rw [Nat.blt_eq] at hn
  obtain ⟨v,u,rfl,h1,h2⟩:=zrm ha
  simp only [rel] at h1
  obtain ⟨s,rfl,hp⟩:=h1
  obtain ⟨m,rfl,rfl⟩:=zxz h2
  unfold kInt at hr'
  rw [zam] at hr'
  have hrun:=Lib.run_countString (P:=P) s m w
  have hle:Lib.countByte s.data.toList m.toNat.toUInt8≤n':=by
   have:=List.count_le_length (a:=m.toNat.toUInt8) (l:=s.data.toList)
   have:=hp.1
   unfold Lib.countByte; omega
  refine .same hi hr' hrun (zo8 ?_ ?_ ?_)
  ·rw [zoc hp m.toNat.toUInt8 n' 0 0 (by omega),List.drop_zero,Nat.zero_add,zg4 (by omega)]
  ·omega
  ·omega
 ·exact absurd hr.symm hne
theorem zvn (hE:zcd P f Extern.BytealgCompare.compare) (hr:iCmp args h n k=rr) (hne:rr≠.fail):CallLaw P f args h n k rr:=by
 refine zcj hE fun ρ w as hi ha=>?_
 unfold iCmp at hr
 split at hr
 ·rename_i n' x m' y
  obtain ⟨v,u,rfl,h1,h2⟩:=zrm ha
  simp only [rel] at h1 h2
  obtain ⟨s,rfl,hp⟩:=h1
  obtain ⟨t,rfl,hq⟩:=h2
  unfold kInt at hr
  rw [zam] at hr
  have hrun:=Lib.run_compareString (P:=P) s t w
  have hb:∀ a b:List UInt8,-1≤Lib.compareBytes a b∧Lib.compareBytes a b≤1:=by
   intro a
   induction a with
   | nil=>intro b; cases b<;>simp [Lib.compareBytes]
   | cons p a ih=>
    intro b
    cases b with
    | nil=>simp [Lib.compareBytes]
    | cons q b=>
     simp only [Lib.compareBytes]
     split
     ·simp
     ·split
      ·simp
      ·exact ih b
  have:=hb s.data.toList t.data.toList
  refine .same hi hr hrun (zo8 ?_ (by omega) (by omega))
  have h3:=zsb hp hq (Nat.min n' m') 0 (by omega)
  rw [List.drop_zero,List.drop_zero] at h3
  exact h3.symm
 ·exact absurd hr.symm hne
end
end
end Go.VE
namespace Go.VE
noncomputable section
open Go Go.Extern
def HB:Nat:=KG - 1
def hdV (t:Nat):AV:=.agg (.cons (.ptr HB t) .nl)
def mkV (t:Nat) (p:AV) (f:Nat):AV:=.agg (.cons (.ptr HB t) (.cons p (.cons (.int 7 f) .nl)))
structure RTab where
 rt:Nat
 kinds:List (Nat × Nat)
 ptrs:List (Nat × Nat)
 comp:List (Nat × Bool)
 one:List Nat
 assg:List ((Nat × Nat) × Bool)
 impl:List ((Nat × Nat) × Bool)
def zkl (a b:Nat):List ((Nat × Nat) × Bool)→Option Bool
 | []=>none
 | ((c,d),v) :: l=>br (Nat.beq a c) (br (Nat.beq b d) (some v) (zkl a b l)) (zkl a b l)
def zpk (a:Nat):List (Nat × Bool)→Option Bool
 | []=>none
 | (c,v) :: l=>br (Nat.beq a c) (some v) (zpk a l)
def asHd (v:AV) (f:Nat→RR):RR:=match v with | .ptr b t=>br (Nat.beq b HB) (f t) .fail | _=>.fail
def asRt (v:AV) (f:Nat→RR):RR:=match v with | .agg (.cons a .nl)=>asHd a f | _=>.fail
def kN1 (o:Option Nat) (f:Nat→RR):RR:=match o with | some x=>f x | none=>.fail
def okU (c u:Nat):Bool:=br (Nat.beq u (c + 128)) true (Nat.beq u (c + 384))
def zn3 (T:RTab) (v:AV) (f:Nat→AV→Nat→RR):RR:=match v with | .agg (.cons a (.cons p (.cons (.int 7 u) .nl)))=>asHd a fun t=>kN1 (zcr t T.kinds) fun c=>br (okU c u) (f t p c) .fail | _=>.fail
def zon (T:RTab):List AV→H→Nat→K→RR
 | [.nili],h,n,k=>k .nili h n
 | [.iface t _],h,n,k=>k (.iface T.rt (hdV t)) h n
 | _,_,_,_=>.fail
def zyr (T:RTab):List AV→H→Nat→K→RR
 | [v],h,n,k=>asRt v fun t=>kB (zpk t T.comp) h n k
 | _,_,_,_=>.fail
def zs1 (T:RTab):List AV→H→Nat→K→RR
 | [v],h,n,k=>asRt v fun t=>kN1 (zcr t T.ptrs) fun e=>k (.iface T.rt (hdV e)) h n
 | _,_,_,_=>.fail
def zyu (T:RTab):List AV→H→Nat→K→RR
 | [v],h,n,k=>asHd v fun t=>kN1 (zcr t T.kinds) fun c=>k (.int 4 c) h n
 | _,_,_,_=>.fail
def zyq (T:RTab):List AV→H→Nat→K→RR
 | [v,.iface _ u],h,n,k=>asRt v fun t=>asRt u fun u=>kB (zkl t u T.assg) h n k
 | _,_,_,_=>.fail
def zyt (T:RTab):List AV→H→Nat→K→RR
 | [v,.iface _ u],h,n,k=>asRt v fun t=>asRt u fun u=>kB (zkl t u T.impl) h n k
 | _,_,_,_=>.fail
def zlw (T:RTab):List AV→H→Nat→K→RR
 | [.iface t v],h,n,k=>kN1 (zcr t T.kinds) fun c=>br (Nat.blt c 32) (br (okCs (zav v)) (alloc (.cells (lenC (zav v)) 0 (zd2 (zav v) 0 .nil)) h n fun h' m=>frc (c + 128) fun c=>k (mkV t (.ptr n 0) c) h' m) .fail) .fail
 | _,_,_,_=>.fail
def zs4 (T:RTab):List AV→H→Nat→K→RR
 | [v],h,n,k=>zn3 T v fun t p _=>zbx p fun _ _=>k (.iface T.rt (hdV t)) h n
 | _,_,_,_=>.fail
def nilK (k:K):K:=fun v h n=>match v with | .nilp=>k (.bool true) h n | .ptr _ _=>k (.bool false) h n | _=>.fail
def zsw (T:RTab):List AV→H→Nat→K→RR
 | [v],h,n,k=>zn3 T v fun t p c=>br (Nat.beq c 22) (kN1 (zcr t T.ptrs) fun _=>zbx p fun b off=>rdO off (getO h b) h n (nilK k)) .fail
 | _,_,_,_=>.fail
def elemK (T:RTab) (e:Nat) (k:K):K:=fun v h n=>zbx v fun _ _=>kN1 (zcr e T.kinds) fun c=>br (Nat.blt c 32) (frc (c + 384) fun c=>k (mkV e v c) h n) .fail
def zs2 (T:RTab):List AV→H→Nat→K→RR
 | [v],h,n,k=>zn3 T v fun t p c=>br (Nat.beq c 22) (kN1 (zcr t T.ptrs) fun e=>zbx p fun b off=>rdO off (getO h b) h n (elemK T e k)) .fail
 | _,_,_,_=>.fail
def isAddr (v:AV):Bool:=match v with | .agg (.cons _ (.cons _ (.cons (.int 7 u) .nl)))=>Nat.beq (u / 256 % 2) 1 | _=>false
def zz0 (p:AV) (k:K):K:=fun v h n=>zbx p fun b off=>br (Nat.beq (lenC (zav v)) 1) (br (okCs (zav v)) (wrO b off (zav v) (getO h b) h n k) .fail) .fail
def zyy (T:RTab):List AV→H→Nat→K→RR
 | [v,x],h,n,k=>br (isAddr v) (zn3 T v fun t p _=>zn3 T x fun s q _=>br (Nat.beq t s) (br (memN t T.one) (zbx q fun b off=>rdO off (getO h b) h n (zz0 p k)) .fail) .fail) .fail
 | _,_,_,_=>.fail
structure RTabOk (P:Program) (T:RTab):Prop where
 hb:P.globals.size=HB
 ct : ∀ w, (cutType "internal/reflectlite.rtype").run P w = .ok T.rt w
 kinds:∀ t c,(t,c) ∈ T.kinds→P.packed t=false∧c < 32∧∀ w,(Rtype.kind t).run P w=.ok c w
 parts:∀ t c,(t,c) ∈ T.kinds→∀ a w u,(u=c + 128∨u=c + 384)→(ReflectliteValue.partsAny (.agg #[.pointer (some ⟨HB,t,none⟩),.pointer (some a),.int .u64 (u:Int)])).run P w=.ok (some (t,a,u)) w
 ptrs:∀ t e,(t,e) ∈ T.ptrs→P.packed t=false∧P.underlying t=some (.pointer e)∧∀ w,(Rtype.elem? t).run P w=.ok (some e) w
 one:∀ t,t ∈ T.one→∃ d i,P.underlying t=some d∧aggD d=false∧P.info? t=some i∧i.size=1
 comp : ∀ t b, (t, b) ∈ T.comp → ∀ w, (ReflectliteType.method (fun t => do Rtype.noPackHeld "Comparable" t; pure (.bool (← typeInfo t).comparable)) #[.agg #[.pointer (some ⟨HB, t, none⟩)]]).run P w = .ok (.bool b) w
 assg : ∀ t u b, ((t, u), b) ∈ T.assg → ∀ r w, (ReflectliteType.relation "AssignableTo" ReflectliteType.assignableTo #[.agg #[.pointer (some ⟨HB, t, none⟩)], .iface r (.agg #[.pointer (some ⟨HB, u, none⟩)])]).run P w = .ok (.bool b) w
 impl : ∀ t u b, ((t, u), b) ∈ T.impl → ∀ r w, (ReflectliteType.relation "Implements" ReflectliteType.implements_ #[.agg #[.pointer (some ⟨HB, t, none⟩)], .iface r (.agg #[.pointer (some ⟨HB, u, none⟩)])]).run P w = .ok (.bool b) w
theorem zcp {a v:Nat}:∀ {l:List (Nat × Nat)},zcr a l=some v→(a,v) ∈ l
 | [],h=>by cases h
 | (c,u) :: l,h=>by
  unfold zcr at h
  cases hb:Nat.beq a c with
  | true=>rw [hb] at h; have:=zak hb; subst this; cases h; exact List.mem_cons_self
  | false=>rw [hb] at h; exact List.mem_cons_of_mem _ (zcp h)
theorem zkm {a:Nat} {v:Bool}:∀ {l:List (Nat × Bool)},zpk a l=some v→(a,v) ∈ l
 | [],h=>by cases h
 | (c,u) :: l,h=>by
  unfold zpk at h
  cases hb:Nat.beq a c with
  | true=>rw [hb] at h; have:=zak hb; subst this; cases h; exact List.mem_cons_self
  | false=>rw [hb] at h; exact List.mem_cons_of_mem _ (zkm h)
theorem zfy {a b:Nat} {v:Bool}:∀ {l:List ((Nat × Nat) × Bool)},zkl a b l=some v→((a,b),v) ∈ l
 | [],h=>by cases h
 | ((c,d),u) :: l,h=>by
  unfold zkl at h
  cases hb:Nat.beq a c with
  | true=>
   rw [hb,zb2] at h
   cases hd:Nat.beq b d with
   | true=>rw [hd] at h; have e1:=zak hb; have e2:=zak hd; subst e1; subst e2; cases h; exact List.mem_cons_self
   | false=>rw [hd] at h; exact List.mem_cons_of_mem _ (zfy h)
  | false=>rw [hb] at h; exact List.mem_cons_of_mem _ (zfy h)
theorem zgo {o:Option Nat} {f:Nat→RR} {rr:RR} (h:kN1 o f=rr) (hne:rr≠.fail):∃ x,o=some x∧f x=rr:=by
 cases o with
 | none=>exact absurd h.symm hne
 | some x=>exact ⟨x,rfl,h⟩
theorem zya:HB < KG:=by decide
section
variable {P:Program} {T:RTab} {f:Nat} {args:List AV} {h:H} {n:Nat} {k:K} {rr:RR} {ρ:Mp} {w:World}
theorem zlk (hst:∀ i,i < KG→ρ i=some (i,0)) {v:AV} {rv:Value} {g:Nat→RR} (hr:asHd v g=rr) (hne:rr≠.fail) (hv:rel ρ v rv):∃ t,v=.ptr HB t∧rv=.pointer (some ⟨HB,t,none⟩)∧g t=rr:=by
 cases v<;>try exact absurd hr.symm hne
 rename_i b t
 obtain ⟨h1,h2⟩:=zab (show br (Nat.beq b HB) (g t) .fail=rr from hr) hne
 rw [Nat.beq_eq] at h1; subst h1
 simp only [rel] at hv
 obtain ⟨r,o,h3,rfl⟩:=hv
 rw [hst HB zya] at h3; cases h3
 exact ⟨t,rfl,by rw [Nat.zero_add],h2⟩
theorem zfx (hst:∀ i,i < KG→ρ i=some (i,0)) {v:AV} {rv:Value} {g:Nat→RR} (hr:asRt v g=rr) (hne:rr≠.fail) (hv:rel ρ v rv):∃ t,v=hdV t∧rv=.agg #[.pointer (some ⟨HB,t,none⟩)]∧g t=rr:=by
 unfold asRt at hr
 split at hr
 ·rename_i a
  simp only [rel] at hv
  obtain ⟨cs,rfl,h1,_⟩:=hv
  simp only [relL] at h1
  obtain ⟨u,_,h1,h2,rfl⟩:=h1
  obtain ⟨t,rfl,rfl,h3⟩:=zlk hst hr hne h2
  refine ⟨t,rfl,?_,h3⟩
  rw [← Array.toArray_toList (xs:=cs),h1]
 ·exact absurd hr.symm hne
theorem zfe (hst:∀ i,i < KG→ρ i=some (i,0)) {v:AV} {rv:Value} {g:Nat→AV→Nat→RR} (hr:zn3 T v g=rr) (hne:rr≠.fail) (hv:rel ρ v rv):
  ∃ t p u c q,v=mkV t p u∧rv=.agg #[.pointer (some ⟨HB,t,none⟩),q,.int .u64 (u:Int)]∧rel ρ p q∧(t,c) ∈ T.kinds∧(u=c + 128∨u=c + 384)∧g t p c=rr:=by
 unfold zn3 at hr
 split at hr
 ·rename_i a p u
  simp only [rel] at hv
  obtain ⟨cs,rfl,h1,_⟩:=hv
  simp only [relL] at h1
  obtain ⟨v1,_,h1,h2,v2,_,rfl,h3,v3,_,rfl,h4,rfl⟩:=h1
  obtain ⟨t,rfl,rfl,h5⟩:=zlk hst hr hne h2
  obtain ⟨c,h6,h7⟩:=zgo h5 hne
  obtain ⟨h8,h9⟩:=zab h7 hne
  simp only [rel] at h4
  obtain ⟨kd,m,rfl,q1,q2,q3,q4⟩:=h4
  have hk:kd=.u64:=by cases kd<;>first | rfl | cases q1
  subst hk
  have hm:(u:Int)=m:=by
   have h0:(0:Int)≤m:=q3
   have h1:m≤18446744073709551615:=q4
   rw [q2]
   unfold encI
   have:moN (zad .u64)=18446744073709551616:=rfl
   rw [this]; omega
  refine ⟨t,p,u,c,v2,rfl,?_,h3,zcp h6,?_,h9⟩
  ·rw [← Array.toArray_toList (xs:=cs),h1,hm]
  ·unfold okU at h8
   rw [zay] at h8
   split at h8
   ·rename_i e; rw [Nat.beq_eq] at e; exact .inl e
   ·rw [Nat.beq_eq] at h8; exact .inr h8
 ·exact absurd hr.symm hne
theorem zxx (hst:∀ i,i < KG→ρ i=some (i,0)) (t:Nat):rel ρ (hdV t) (.agg #[.pointer (some ⟨HB,t,none⟩)]):=by
 unfold hdV
 simp only [rel]
 refine ⟨_,rfl,?_,rfl⟩
 simp only [relL]
 exact ⟨_,[],rfl,by simp only [rel]; exact ⟨HB,0,hst HB zya,by rw [Nat.zero_add]⟩,rfl⟩
theorem zt9 (hst:∀ i,i < KG→ρ i=some (i,0)) {t u:Nat} {p:AV} {q:Value} (hp:rel ρ p q) (ho:okC p=true) (hu:u < 18446744073709551616):rel ρ (mkV t p u) (.agg #[.pointer (some ⟨HB,t,none⟩),q,.int .u64 (u:Int)]):=by
 unfold mkV
 simp only [rel]
 refine ⟨_,rfl,?_,?_⟩
 ·simp only [relL]
  refine ⟨_,_,rfl,by simp only [rel]; exact ⟨HB,0,hst HB zya,by rw [Nat.zero_add]⟩,q,_,rfl,hp,_,[],rfl,?_,rfl⟩
  simp only [rel]
  refine ⟨.u64,u,rfl,rfl,?_,(show (0:Int)≤_ by omega),(show (u:Int)≤18446744073709551615 by omega)⟩
  unfold encI
  have:moN (zad .u64)=18446744073709551616:=rfl
  rw [this]; omega
 ·simp only [okCs,ho,zb2]; rfl
theorem zwr (f:TypeId→Sem Value) (r:Value):ReflectliteType.method f #[r]=(do f (← ReflectliteType.ofRtype r)):=rfl
theorem zt3 (h : Value) : ReflectliteType.ofRtype (.agg #[h]) = (do let t ← Rtype.ofHandle h; Rtype.noPack "a Type asked or handed on" t; pure t) := rfl
theorem r_abi (f : TypeId → Sem Value) (h : Value) : ReflectliteType.abiMethod f #[h] = (do let t ← Rtype.ofHandle h; Rtype.noPack "a method of abi.Type" t; f t) := rfl
theorem zqs (z:Sem Value) (f:TypeId→Addr→Nat→Nat→Sem Value) (v:Value):ReflectliteValue.method z f #[v]=(do match ← ReflectliteValue.parts v with | none=>z | some (t,a,fl)=>f t a fl (fl % 32)):=rfl
theorem v_any (z:Sem Value) (f:TypeId→Addr→Nat→Nat→Sem Value) (v:Value):ReflectliteValue.methodAny z f #[v]=(do match ← ReflectliteValue.partsAny v with | none=>z | some (t,a,fl)=>f t a fl (fl % 32)):=rfl
theorem zk8 (hT:RTabOk P T) (t:Nat):(Rtype.handle t).run P w=.ok (.pointer (some ⟨HB,t,none⟩)) w:=by
 simp [Rtype.handle,typeHandle,hT.hb]
theorem zh7 (hT:RTabOk P T) (t:Nat):(ReflectliteType.toType t).run P w=.ok (.iface T.rt (.agg #[.pointer (some ⟨HB,t,none⟩)])) w:=by
 simp [ReflectliteType.toType,hT.ct,zk8 hT]
theorem zik (hT:RTabOk P T) (t:Nat):(Rtype.ofHandle (.pointer (some ⟨HB,t,none⟩))).run P w=.ok t w:=by
 simp [Rtype.ofHandle,handleType,hT.hb]
theorem zh6 {s:String} {t:Nat} (h:P.packed t=false):(Rtype.noPack s t).run P w=.ok () w:=by
 simp [Rtype.noPack,h]
theorem zua (hst:∀ i,i < KG→ρ i=some (i,0)) (t:Nat):rel ρ (.iface T.rt (hdV t)) (.iface T.rt (.agg #[.pointer (some ⟨HB,t,none⟩)])):=by
 have:=zxx hst t
 simp only [rel]
 exact ⟨_,rfl,this⟩
theorem zoo (hT:RTabOk P T) (hE:zcd P f ReflectliteType.typeOf) (hr:zon T args h n k=rr) (hne:rr≠.fail):CallLaw P f args h n k rr:=by
 refine zcj hE fun ρ w as hi ha=>?_
 unfold zon at hr
 split at hr
 ·obtain ⟨v,rfl,h1⟩:=zit ha
  simp only [rel] at h1; subst h1
  exact .same hi hr (rv:=.nilIface) rfl (by simp only [rel])
 ·rename_i t v
  obtain ⟨u,rfl,h1⟩:=zit ha
  simp only [rel] at h1
  obtain ⟨v',rfl,_⟩:=h1
  exact .same hi hr (show (ReflectliteType.toType t).run P w=_ from zh7 hT t) (zua hi.st t)
 ·exact absurd hr.symm hne
theorem zsu (hT : RTabOk P T) (hE : zcd P f (ReflectliteType.method (fun t => do Rtype.noPackHeld "Comparable" t; pure (.bool (← typeInfo t).comparable)))) (hr : zyr T args h n k = rr) (hne : rr ≠ .fail) : CallLaw P f args h n k rr := by
 refine zcj hE fun ρ w as hi ha=>?_
 unfold zyr at hr
 split at hr
 ·obtain ⟨u,rfl,h1⟩:=zit ha
  obtain ⟨t,rfl,rfl,h2⟩:=zfx hi.st hr hne h1
  obtain ⟨b,h3,h4⟩:=zmy h2 hne
  exact .same hi h4 (hT.comp t b (zkm h3) w) (zbr b)
 ·exact absurd hr.symm hne
theorem zq9 (hT:RTabOk P T) (hE:zcd P f (ReflectliteType.method ReflectliteType.elem)) (hr:zs1 T args h n k=rr) (hne:rr≠.fail):CallLaw P f args h n k rr:=by
 refine zcj hE fun ρ w as hi ha=>?_
 unfold zs1 at hr
 split at hr
 ·obtain ⟨u,rfl,h1⟩:=zit ha
  obtain ⟨t,rfl,rfl,h2⟩:=zfx hi.st hr hne h1
  obtain ⟨e,h3,h4⟩:=zgo h2 hne
  obtain ⟨q1,q2,q3⟩:=hT.ptrs t e (zcp h3)
  refine .same hi h4 ?_ (zua hi.st e)
  show (ReflectliteType.method ReflectliteType.elem #[_]).run P w=_
  rw [zwr,zt3]
  simp only [Sem.run_bind,zik hT,Result.andThen_ok,zh6 q1,Sem.run_pure,ReflectliteType.elem,q3,zh7 hT]
 ·exact absurd hr.symm hne
theorem zsy (hT:RTabOk P T) (hE:zcd P f (ReflectliteType.abiMethod fun t=>do pure (.int .u8 (← Rtype.kind t)))) (hr:zyu T args h n k=rr) (hne:rr≠.fail):CallLaw P f args h n k rr:=by
 refine zcj hE fun ρ w as hi ha=>?_
 unfold zyu at hr
 split at hr
 ·obtain ⟨u,rfl,h1⟩:=zit ha
  obtain ⟨t,rfl,rfl,h2⟩:=zlk hi.st hr hne h1
  obtain ⟨c,h3,h4⟩:=zgo h2 hne
  obtain ⟨q1,hc,q2⟩:=hT.kinds t c (zcp h3)
  refine .same hi h4 (rv:=.int .u8 (c:Int)) ?_ ?_
  ·show (ReflectliteType.abiMethod _ #[_]).run P w=_
   rw [r_abi]
   simp only [Sem.run_bind,zik hT,Result.andThen_ok,zh6 q1,Sem.run_pure,q2]
  ·simp only [rel]
   refine ⟨.u8,c,rfl,rfl,?_,(show (0:Int)≤_ by omega),(show (c:Int)≤255 by omega)⟩
   unfold encI
   have:moN (zad .u8)=256:=rfl
   rw [this]; omega
 ·exact absurd hr.symm hne
theorem zst (hT : RTabOk P T) (hE : zcd P f (ReflectliteType.relation "AssignableTo" ReflectliteType.assignableTo)) (hr : zyq T args h n k = rr) (hne : rr ≠ .fail) : CallLaw P f args h n k rr := by
 refine zcj hE fun ρ w as hi ha=>?_
 unfold zyq at hr
 split at hr
 ·obtain ⟨v1,v2,rfl,h1,h2⟩:=zrm ha
  simp only [rel] at h2
  obtain ⟨u',rfl,h2⟩:=h2
  obtain ⟨t,rfl,rfl,h3⟩:=zfx hi.st hr hne h1
  obtain ⟨u,rfl,rfl,h4⟩:=zfx hi.st h3 hne h2
  obtain ⟨b,h5,h6⟩:=zmy h4 hne
  exact .same hi h6 (hT.assg t u b (zfy h5) _ w) (zbr b)
 ·exact absurd hr.symm hne
theorem zsv (hT : RTabOk P T) (hE : zcd P f (ReflectliteType.relation "Implements" ReflectliteType.implements_)) (hr : zyt T args h n k = rr) (hne : rr ≠ .fail) : CallLaw P f args h n k rr := by
 refine zcj hE fun ρ w as hi ha=>?_
 unfold zyt at hr
 split at hr
 ·obtain ⟨v1,v2,rfl,h1,h2⟩:=zrm ha
  simp only [rel] at h2
  obtain ⟨u',rfl,h2⟩:=h2
  obtain ⟨t,rfl,rfl,h3⟩:=zfx hi.st hr hne h1
  obtain ⟨u,rfl,rfl,h4⟩:=zfx hi.st h3 hne h2
  obtain ⟨b,h5,h6⟩:=zmy h4 hne
  exact .same hi h6 (hT.impl t u b (zfy h5) _ w) (zbr b)
 ·exact absurd hr.symm hne
theorem zxy (hT:RTabOk P T) {t c:Nat} (hk:∀ w,(Rtype.kind t).run P w=.ok c w) (a:Addr) (fl:Nat):(ReflectliteValue.mk t a fl).run P w=.ok (.agg #[.pointer (some ⟨HB,t,none⟩),.pointer (some a),.int .u64 ((c + 128 + fl:Nat):Int)]) w:=by
 simp [ReflectliteValue.mk,zk8 hT,hk,ReflectliteValue.flagIndir]
theorem zmw (hT:RTabOk P T) (hE:zcd P f (fun args=>ReflectliteValue.unpack (args.getD 0 (.tuple #[])))) (hr:zlw T args h n k=rr) (hne:rr≠.fail):CallLaw P f args h n k rr:=by
 refine zcj hE fun ρ w as hi ha=>?_
 unfold zlw at hr
 split at hr
 ·rename_i t v
  obtain ⟨u,rfl,h1⟩:=zit ha
  simp only [rel] at h1
  obtain ⟨rv,rfl,h1⟩:=h1
  obtain ⟨c,h3,h4⟩:=zgo hr hne
  obtain ⟨h5,h6⟩:=zab h4 hne
  obtain ⟨h7,h8⟩:=zab h6 hne
  rw [Nat.blt_eq] at h5
  obtain ⟨q1,_,q2⟩:=hT.kinds t c (zcp h3)
  have hl:=zet h7 h1
  obtain ⟨e1,g⟩:=zbp hi hne (o:=.cells rv.cells t) (y:=(0,0)) h8 (fun hf=>zf5 hl h7 (by simpa [fitO] using hf))
  rw [zam] at e1
  refine ⟨_,_,_,_,_,_,e1,?_,g,zt9 g.inv.st (zd3 (Mp.ext_same _ _ _ _)) rfl (by omega)⟩
  show (ReflectliteValue.unpack (.iface t rv)).run P w=_
  simp only [ReflectliteValue.unpack,Sem.run_bind,newVar,za9,Result.andThen_ok]
  rw [zxy hT q2]
 ·exact absurd hr.symm hne
theorem zrb (hT : RTabOk P T) (hE : zcd P f (ReflectliteValue.methodAny (ReflectliteValue.valueError "reflectlite.Value.Type" 0) fun t _ _ _ => ReflectliteType.toType t)) (hr : zs4 T args h n k = rr) (hne : rr ≠ .fail) : CallLaw P f args h n k rr := by
 refine zcj hE fun ρ w as hi ha=>?_
 unfold zs4 at hr
 split at hr
 ·obtain ⟨v1,rfl,h1⟩:=zit ha
  obtain ⟨t,p,u,c,q,rfl,rfl,h2,hm,hu,h3⟩:=zfe hi.st hr hne h1
  obtain ⟨b,o,rfl,h4⟩:=zbu h3 hne
  obtain ⟨r,o',_,rfl⟩:=zca h2
  refine .same hi h4 ?_ (zua hi.st t)
  show (ReflectliteValue.methodAny _ _ #[_]).run P w=_
  rw [v_any]
  simp only [Sem.run_bind,hT.parts t c hm _ w u hu,Result.andThen_ok,zh7 hT]
 ·exact absurd hr.symm hne
theorem zhp (hT:RTabOk P T) {t u c:Nat} {a:Addr} (hm:(t,c) ∈ T.kinds) (hu:u=c + 128∨u=c + 384):(ReflectliteValue.parts (.agg #[.pointer (some ⟨HB,t,none⟩),.pointer (some a),.int .u64 (u:Int)])).run P w=.ok (some (t,a,u)) w:=by
 unfold ReflectliteValue.parts
 simp only [Sem.run_bind,hT.parts t c hm a w u hu,Result.andThen_ok,zh6 (hT.kinds t c hm).1,Sem.run_pure]
theorem mod32 {c u:Nat} (hc:c < 32) (hu:u=c + 128∨u=c + 384):u % 32=c:=by omega
theorem zp4 {t e:TypeId} (ht:P.underlying t=some (.pointer e)) {r o b off:Nat} (hi:Inv ρ h n w) (hne:rr≠.fail) (hρ:ρ b=some (r,o)) {k:K} (hr:rdO off (getO h b) h n k=rr):
  ∃ v rv,k v h n=rr∧(loadVar t ⟨r,o + off,none⟩).run P w=.ok rv w∧rel ρ v rv:=by
 obtain ⟨v,rv,h1,h2,h3⟩:=zf7 (P:=P) hi hne (x:=.ptr b off) (zd3 hρ) ht rfl (k:=k) hr
 exact ⟨v,rv,h1,by simpa [Instr.loadAt,Instr.sureAddr] using h2,h3⟩
theorem zq7 (hT : RTabOk P T) (hE : zcd P f (ReflectliteValue.method (ReflectliteValue.valueError "reflectlite.Value.IsNil" 0) ReflectliteValue.isNil)) (hr : zsw T args h n k = rr) (hne : rr ≠ .fail) : CallLaw P f args h n k rr := by
 refine zcj hE fun ρ w as hi ha=>?_
 unfold zsw at hr
 split at hr
 ·obtain ⟨v1,rfl,h1⟩:=zit ha
  obtain ⟨t,p,u,c0,q,rfl,rfl,h2,hm,hu,h3⟩:=zfe hi.st hr hne h1
  obtain ⟨h4,h5⟩:=zab h3 hne
  obtain ⟨e,h6,h7⟩:=zgo h5 hne
  obtain ⟨b,o,rfl,h8⟩:=zbu h7 hne
  obtain ⟨r,o',hρ,rfl⟩:=zca h2
  obtain ⟨q1,q2,q3⟩:=hT.ptrs t e (zcp h6)
  have hu22:=mod32 (hT.kinds t c0 hm).2.1 hu
  rw [zak h4] at hu22
  obtain ⟨v,rv,g1,g2,g3⟩:=zp4 q2 hi hne hρ h8
  unfold nilK at g1
  have key:∀ (x:Value) (b:Bool),(loadVar t ⟨r,o' + o,none⟩).run P w=.ok x w→((x=.pointer none∧b=true)∨∃ a,x=.pointer (some a)∧b=false)→
    (ReflectliteValue.method (ReflectliteValue.valueError "reflectlite.Value.IsNil" 0) ReflectliteValue.isNil #[.agg #[.pointer (some ⟨HB, t, none⟩), .pointer (some ⟨r, o' + o, none⟩), .int .u64 (u : Int)]]).run P w = .ok (.bool b) w := by
   intro x b hx hb
   rw [zqs]
   simp only [Sem.run_bind,zhp hT hm hu,Result.andThen_ok]
   rw [hu22]
   simp only [ReflectliteValue.isNil,Sem.run_bind]
   rcases hb with ⟨rfl,rfl⟩ | ⟨a,rfl,rfl⟩<;>simp [hx]
  split at g1
  ·simp only [rel] at g3; subst g3
   exact .same hi g1 (key _ true g2 (.inl ⟨rfl,rfl⟩)) (zbr true)
  ·simp only [rel] at g3; obtain ⟨_,_,_,rfl⟩:=g3
   exact .same hi g1 (key _ false g2 (.inr ⟨_,rfl,rfl⟩)) (zbr false)
  ·exact absurd g1.symm hne
 ·exact absurd hr.symm hne
theorem zra (hT : RTabOk P T) (hE : zcd P f (ReflectliteValue.method (ReflectliteValue.valueError "reflectlite.Value.Elem" 0) ReflectliteValue.elem)) (hr : zs2 T args h n k = rr) (hne : rr ≠ .fail) : CallLaw P f args h n k rr := by
 refine zcj hE fun ρ w as hi ha=>?_
 unfold zs2 at hr
 split at hr
 ·obtain ⟨v1,rfl,h1⟩:=zit ha
  obtain ⟨t,p,u,c0,q,rfl,rfl,h2,hm,hu,h3⟩:=zfe hi.st hr hne h1
  obtain ⟨h4,h5⟩:=zab h3 hne
  obtain ⟨e,h6,h7⟩:=zgo h5 hne
  obtain ⟨b,o,rfl,h8⟩:=zbu h7 hne
  obtain ⟨r,o',hρ,rfl⟩:=zca h2
  obtain ⟨q1,q2,q3⟩:=hT.ptrs t e (zcp h6)
  have hu22:=mod32 (hT.kinds t c0 hm).2.1 hu
  rw [zak h4] at hu22
  obtain ⟨v,rv,g1,g2,g3⟩:=zp4 q2 hi hne hρ h8
  unfold elemK at g1
  obtain ⟨pb,po,rfl,g4⟩:=zbu g1 hne
  obtain ⟨c,g5,g6⟩:=zgo g4 hne
  obtain ⟨g7,g8⟩:=zab g6 hne
  rw [zam] at g8
  rw [Nat.blt_eq] at g7
  have g3':=g3
  obtain ⟨r2,o2,hρ2,rfl⟩:=zca g3
  obtain ⟨_,_,k2⟩:=hT.kinds e c (zcp g5)
  refine .same hi g8 ?_ (zt9 hi.st g3' rfl (by omega))
  show (ReflectliteValue.method _ _ #[_]).run P w=_
  rw [zqs]
  simp only [Sem.run_bind,zhp hT hm hu,Result.andThen_ok]
  rw [hu22]
  simp only [ReflectliteValue.elem,Sem.run_bind]
  simp [g2,q3,zxy hT k2,ReflectliteValue.flagAddr]
  omega
 ·exact absurd hr.symm hne
theorem v_set (v x:Value):ReflectliteValue.set #[v,x]=(do
  let (some (dst,a,fl),some (src,b,_)):=(← ReflectliteValue.parts v,← ReflectliteValue.parts x)
   | unsupported (.noEntry "extern/(internal/reflectlite.Value).Set.zeroValue")
  if fl / ReflectliteValue.flagAddr % 2 == 0 then unsupported (.noEntry "extern/(internal/reflectlite.Value).Set.unaddressable")
  let val ← loadVar src b
  if ← Rtype.directlyAssignable dst src then storeVar dst a val
  else if ← Rtype.implements dst src then
   if (← Rtype.kind src) == 20 then
    match val with
    | .nilIface => unsupported (.noEntry "extern/reflectlite: a nil value of one interface type handed on as a value of another")
    | _=>storeVar dst a val
   else storeVar dst a (.iface src val)
  else panicString ("reflectlite.Set: value of type " ++ (← Rtype.spelt src) ++ " is not assignable to type " ++ (← Rtype.spelt dst))
  pure (.tuple #[])):=rfl
theorem zs3 (hT:RTabOk P T) (hE:zcd P f ReflectliteValue.set) (hr:zyy T args h n k=rr) (hne:rr≠.fail):CallLaw P f args h n k rr:=by
 refine zcj hE fun ρ w as hi ha=>?_
 unfold zyy at hr
 split at hr
 ·obtain ⟨v1,v2,rfl,ha1,ha2⟩:=zrm ha
  obtain ⟨h0,h3⟩:=zab hr hne
  obtain ⟨t,p,u,c,q,rfl,rfl,h2,hm,hu,h4⟩:=zfe hi.st h3 hne ha1
  obtain ⟨s,p',u',c',q',rfl,rfl,h2',hm',hu',h5⟩:=zfe hi.st h4 hne ha2
  obtain ⟨h6,h7⟩:=zab h5 hne
  have:=zak h6
  subst this
  obtain ⟨h8,h9⟩:=zab h7 hne
  obtain ⟨d,i,k1,k2,k3,k4⟩:=hT.one t (memN_iff.1 h8)
  obtain ⟨b,o,rfl,h10⟩:=zbu h9 hne
  obtain ⟨v,rv,g1,g2,g3⟩:=zf7 (P:=P) hi hne h2' k1 k2 (k:=zz0 p k) h10
  have g1':=g1
  unfold zz0 at g1
  rw [← k4] at g1
  obtain ⟨h',n',σ,w',e1,e2,e3⟩:=zny (P:=P) hi hne h2 g3 k3 g1
  obtain ⟨pb,po,rfl,_⟩:=zbu g1' hne
  obtain ⟨r1,o1,hρ1,rfl⟩:=zca h2
  obtain ⟨r2,o2,hρ2,rfl⟩:=zca h2'
  refine ⟨.undef,h',n',σ,w',.tuple #[],e1,?_,e3,by simp only [rel]⟩
  have hfl:u / 256 % 2=1:=by
   have:Nat.beq (u / 256 % 2) 1=true:=h0
   exact zak this
  have g2':(loadVar t ⟨r2,o2 + o,none⟩).run P w=.ok rv w:=by simpa [Instr.loadAt,Instr.sureAddr] using g2
  have e2':(storeVar t ⟨r1,o1 + po,none⟩ rv).run P w=.ok () w':=by simpa [Instr.storeAt,Instr.sureAddr] using e2
  show (ReflectliteValue.set #[_,_]).run P w=_
  rw [v_set]
  simp only [Sem.run_bind,zhp hT hm hu,zhp hT hm' hu',Result.andThen_ok]
  simp [ReflectliteValue.flagAddr,hfl,g2',Rtype.directlyAssignable,e2']
 ·exact absurd hr.symm hne
end
end
end Go.VE
