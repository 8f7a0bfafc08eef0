/- The evaluator, part 18: definitions and their laws, over any program. No condition. -/
import Derived.Test.YtjpelmgihpmohaaGreatDoorVE17
set_option linter.all false
namespace Go.VE
noncomputable section
abbrev I:=List AV→H→Nat→K→RR
def bd (x:Nat):Bool:=Nat.blt x 9223372036854775808
def cel (h:H) (b i:Nat):AV:=match getO h b with | some (.cells m _ t)=>br (Nat.blt i m) (zag t i) .undef | _=>.undef
def decN (u:Nat):AV:=
 br (Nat.blt u 10) (.str 1 (48 + u)) (br (Nat.blt u 100) (.str 2 ((48 + u / 10) * 256 + (48 + u % 10)))
  (br (Nat.blt u 1000) (.str 3 ((48 + u / 100) * 65536 + (48 + u / 10 % 10) * 256 + (48 + u % 10))) (.str 4 ((48 + u / 1000) * 16777216 + (48 + u / 100 % 10) * 65536 + (48 + u / 10 % 10) * 256 + (48 + u % 10)))))
def isI7 (v:AV) (u:Nat):Bool:=match v with | .int k w=>br (Nat.beq k 7) (Nat.beq w u) false | _=>false
def okG (h:H):Bool:=br (isI7 (cel h 2 0) 1) (br (isI7 (cel h 2 1) 10) (br (isI7 (cel h 2 2) 100) (isI7 (cel h 2 3) 1000) false) false) false
def strK (v:AV) (h:H) (n:Nat) (k:K):RR:=match v with | .str a x=>frc x fun x=>k (.str a x) h n | _=>.fail
def zsx (most:Nat) (fb:I):I:=fun args h n k=>match args with
 | [.int kd u]=>br (Nat.beq kd 3) (br (Nat.blt u most) (br (br (okG h) (Nat.ble n 9223372036854775808) false) (strK (decN u) h n k) (fb args h n k)) (fb args h n k)) (fb args h n k)
 | _=>fb args h n k
def zg1 (o:Option AO) (f:Nat):Option Nat:=match o with
 | some (.bytes m x)=>br (Nat.ble (f + 128) m) (some (cutB m x f (f + 128))) none
 | _=>none
def slV (h:H) (n:Nat):AV→Option Nat
 | .sl b f l _ _=>br (Nat.beq l 128) (br (Nat.blt b n) (zg1 (getO h b) f) none) none
 | _=>none
def blkV (h:H) (n:Nat) (v:AV):Option Nat:=match v with
 | .nils=>some 0
 | v=>slV h n v
def dRd (h:H) (n d no:Nat):Option Nat:=match cel h d 0,cel h d 3 with
 | .sl s f l _ _,.bool dead=>br dead none (br (Nat.blt no l) (br (bd l) (br (Nat.blt d n) (br (Nat.blt s n) (blkV h n (cel h s (f + no))) none) none) none) none)
 | _,_=>none
def jRd (h:H) (n j no:Nat):Option Nat:=match cel h j 0 with | .ptr d o=>br (Nat.beq o 0) (dRd h n d no) none | _=>none
def zvl (no:Nat) (o:Option AO):Option (Option AV):=match o with | some (.map l)=>zg5 (.int 3 no) l | _=>none
def tagO (b:Bool) (o:Option Nat):Option (Bool × Nat):=match o with | some x=>some (b,x) | none=>none
def cRd2 (h:H) (n j no:Nat) (r:Option (Option AV)):Option (Bool × Nat):=match r with
 | some none=>tagO false (jRd h n j no)
 | some (some v)=>tagO true (slV h n v)
 | none=>none
def cRd (h:H) (n c no:Nat):Option (Bool × Nat):=match cel h c 0,cel h c 1,cel h c 2 with
 | .ptr j o,.int kd m,.map mb=>br (Nat.beq o 0) (br (Nat.beq kd 3) (br (bd m) (br (Nat.blt no m) (br (Nat.blt no 640) (br (Nat.blt c n) (br (Nat.blt j n) (br (Nat.blt mb n) (cRd2 h n j no (zvl no (getO h mb))) none) none) none) none) none) none) none) none
 | _,_,_=>none
def okN (n:Nat):Bool:=br (Nat.ble 10 n) (Nat.blt n 1000000000000000000) false
def okH (n:Nat):Bool:=br (Nat.ble 10 n) (Nat.blt n 500000000000000000) false
def zfj (x m:Nat) (h:H) (k:K):RR:=frc x fun x=>frc m fun m=>frc (m + 1) fun m'=>k (.tup (.cons (.sl m 0 128 128 true) (.cons .nili .nl))) (setO h m (.bytes 128 x)) m'
def zso (x:Option (Bool × Nat)) (h:H) (n:Nat) (k:K) (r:RR):RR:=match x with
 | some p=>br (br (okG h) (okN n) false) (br p.1 (zfj p.2 (n + 1) h k) (zfj p.2 n h k)) .fail
 | none=>r
def zga (fb:I):I:=fun args h n k=>match args with
 | [.ptr c o,.int kd no]=>br (Nat.beq o 0) (br (Nat.beq kd 3) (zso (cRd h n c no) h n k (fb args h n k)) (fb args h n k)) (fb args h n k)
 | _=>fb args h n k
def num2 (m x f:Nat):Nat:=zar m x f + zar m x (f + 1) * 256
def zza (x:Nat):Option Nat:=br (Nat.ble (zar 128 x 0) 2) (br (Nat.ble (num2 128 x 1) 1024) (some (zar 128 x 0)) none) none
def zgb (h:H) (n c no:Nat):Option Nat:=match cRd h n c no with | some p=>zza p.2 | none=>none
def zlz (h:H) (n c f:Nat):Nat→Nat→Option Nat:=@Nat.rec (fun _=>Nat→Nat→Option Nat) (fun _ acc=>some acc)
 (fun _ go no acc=>match zgb h n c no with
  | some kd=>frc (no + 1) fun no=>br (Nat.beq kd 0) (frc (acc + 1) fun acc=>go no acc) (go no acc)
  | none=>none) f
def okJ (u:Option Nat) (h:H) (n:Nat) (k:K) (r:RR):RR:=match u with
 | some u=>frc u fun u=>k (.tup (.cons (.int 3 u) (.cons .nili .nl))) h n
 | none=>r
def zyv (fb:I):I:=fun args h n k=>match args with
 | [.ptr t o]=>br (Nat.beq o 0) (match cel h t 0,cel h t 2,cel h t 3 with
  | .ptr c o,.int kd a,.int kd2 m=>br (Nat.beq o 0) (br (Nat.beq kd 3) (br (Nat.beq kd2 3) (br (Nat.blt m 1000) (br (Nat.blt a 1000000) (br (br (Nat.blt t n) (br (okG h) (okH n) false) false) (okJ (zlz h n c m a 0) h n k (fb args h n k)) (fb args h n k)) (fb args h n k)) (fb args h n k)) (fb args h n k)) (fb args h n k)) (fb args h n k)
  | _,_,_=>fb args h n k) (fb args h n k)
 | _=>fb args h n k
def bitN (x i:Nat):Nat:=(zar 128 x (i / 8) / 2 ^ (i % 8)) % 2
def zdo (x f:Nat):Nat→Nat→Nat:=@Nat.rec (fun _=>Nat→Nat→Nat) (fun _ acc=>acc)
 (fun _ go i acc=>frc (i + 1) fun j=>br (Nat.beq (bitN x i) 1) (frc (acc + 1) fun acc=>go j acc) (go j acc)) f
def freeN (x:Option (Bool × Nat)) (m:Nat):Option Nat:=match x with | some p=>frc (cutB 128 p.2 0 128) fun x=>some (m - zdo x m 0 0) | none=>none
def zys (fb:I):I:=fun args h n k=>match args with
 | [.ptr t o]=>br (Nat.beq o 0) (match cel h t 0,cel h t 1,cel h t 2,cel h t 3 with
  | .ptr c o,.int kd a,.int kd3 fr,.int kd2 m=>br (Nat.beq o 0) (br (Nat.beq kd 3) (br (Nat.beq kd2 3) (br (Nat.beq kd3 3) (br (Nat.blt fr 1000000) (br (Nat.ble 1 m) (br (Nat.ble m 1024) (br (br (Nat.blt t n) (br (okG h) (okH n) false) false) (okJ (freeN (cRd h n c a) m) h n k (fb args h n k)) (fb args h n k)) (fb args h n k)) (fb args h n k)) (fb args h n k)) (fb args h n k)) (fb args h n k)) (fb args h n k)) (fb args h n k)
  | _,_,_,_=>fb args h n k) (fb args h n k)
 | _=>fb args h n k
def fnv (m x f:Nat):Nat→Nat→Nat:=@Nat.rec (fun _=>Nat→Nat→Nat) (fun _ acc=>acc)
 (fun _ go i acc=>frc (Nat.xor acc (zar m x i) * 1099511628211 % 18446744073709551616) fun acc=>frc (i + 1) fun i=>go i acc) f
def fnvO (h:H) (v:AV) (acc:Nat):Option Nat:=match v with
 | .nils=>some acc
 | .sl b f l _ _=>br (Nat.beq l 0) (some acc) (match getO h b with | some (.bytes m x)=>br (Nat.ble (f + l) m) (br (Nat.blt l 100000) (some (fnv m x l f acc)) none) none | _=>none)
 | _=>none
def fnvL (h:H) (t:T AV) (f:Nat):Nat→Nat→Option Nat:=@Nat.rec (fun _=>Nat→Nat→Option Nat) (fun _ acc=>some acc)
 (fun _ go i acc=>match fnvO h (zag t i) acc with
  | some acc=>frc acc fun acc=>frc (i + 1) fun i=>go i acc
  | none=>none) f
def okW (u:Option Nat) (h:H) (n:Nat) (k:K) (r:RR):RR:=match u with
 | some u=>frc u fun u=>k (.int 7 u) h n
 | none=>r
def ztw (h:H) (f l:Nat) (o:Option AO):Option Nat:=match o with
 | some (.cells m _ t)=>br (Nat.ble (f + l) m) (br (Nat.blt l 100000) (fnvL h t l f 14695981039346656037) none) none
 | _=>none
def zsz (fb:I):I:=fun args h n k=>match args with
 | [.sl b f l _ _]=>okW (ztw h f l (getO h b)) h n k (fb args h n k)
 | _=>fb args h n k
end
end Go.VE
namespace Go.VE
noncomputable section
def nameM:Nat:=95704415580147579119642937602632318976
def okB (c:Nat):Bool:=Nat.beq (Nat.land (Nat.shiftRight nameM c) 1) 1
def okT (b:Bool) (h:H) (n:Nat) (k:K):RR:=br b (k (.bool true) h n) (k (.bool false) h n)
def zq8 (fb:I):I:=fun args h n k=>match args with
 | [.int kd c]=>br (Nat.beq kd 4) (br (Nat.blt c 256) (br (Nat.ble n 9223372036854775808) (okT (okB c) h n k) (fb args h n k)) (fb args h n k)) (fb args h n k)
 | _=>fb args h n k
def zre (m x f:Nat):Nat→Bool:=@Nat.rec (fun _=>Nat→Bool) (fun _=>true) (fun _ go i=>br (okB (zar m x i)) (frc (Nat.succ i) go) false) f
def zti (m x:Nat):Bool:=br (Nat.ble 1 m) (br (Nat.ble m 27) (br (br (Nat.beq m 1) (Nat.beq x 46) false) false (br (br (Nat.beq m 2) (Nat.beq x 11822) false) false (zre m x m 0))) false) false
def zyw (fb:I):I:=fun args h n k=>match args with
 | [.str m x]=>br (zti m x) (br (Nat.ble n 9223372036854775808) (k (.bool true) h n) (fb args h n k)) (fb args h n k)
 | _=>fb args h n k
end
end Go.VE
namespace Go.VE
noncomputable section
open Go
section
variable {P:Program} {f:Nat} {args:List AV} {h h2:H} {n n2:Nat} {v:AV} {k:K} {rr:RR}
theorem CallLaw.turn {k2:K} {r2:RR} (hc:CallLaw P f args h n k2 r2) (key:∀ (ρ:Mp) (w:World) (rv:Value) (w':World),Inv ρ h n w→Post ρ h n w k2 r2 rv w'→Post ρ h n w k rr rv w'):CallLaw P f args h n k rr:=by
 rcases hc with ⟨c1,c2⟩ | c2
 ·refine .inl ⟨c1,fun ρ w as hi ha=>(c2 ρ w as hi ha).mono fun e w' hp=>?_⟩
  obtain ⟨rv,e1,hp⟩:=hp
  exact ⟨rv,e1,key _ _ _ _ hi hp⟩
 ·refine .inr fun ρ w as hi ha=>?_
  obtain ⟨rv,w',e1,hp⟩:=c2 ρ w as hi ha
  exact ⟨rv,w',e1,key _ _ _ _ hi hp⟩
theorem CallLaw.roN (hc:CallLaw P f args h n finK (.fin v h2 n2)) (hs:∀ b,b < n→getO h2 b=getO h b) (hv:noP v=true) (hr:k v h n=rr):CallLaw P f args h n k rr:=by
 refine hc.turn ?_
 rintro ρ w rv w' hi ⟨v1,h1,n1,σ,e,g,r⟩
 have e':RR.fin v1 h1 n1=RR.fin v h2 n2:=e
 cases e'
 refine ⟨v,h,n,ρ,hr,⟨⟨fun b o hb=>?_,hi.inj,hi.dom,fun b r x hb=>Nat.lt_of_lt_of_le (hi.rng b r x hb) g.size,hi.lim,hi.st⟩,Mp.le_refl _,Nat.le_refl _,g.size,g.keep,fun r _ hl=>hl,g.io⟩,zj3 _ _ hv r⟩
 obtain ⟨r,base,h1,h2'⟩:=hi.obj b o hb
 obtain ⟨r',base',h3,h4⟩:=g.inv.obj b o (by rw [hs b (hi.dom b (by rw [h1]; simp))]; exact hb)
 rw [g.le.at_ _ _ h1] at h3; cases h3
 rw [g.le.gs _ _ h1] at h4
 exact ⟨r,base,h1,zt7 g.le h2' h4⟩
theorem CallLaw.oneN {b':Nat} {o':AO} {n':Nat} (hc:CallLaw P f args h n finK (.fin v h2 n2)) (hs:∀ b,b < n→getO h2 b=getO h b) (hb:n≤b') (ho:getO h2 b'=some o') (hn:n2≤n') (ht:n'≤18446744073709551615) (hr:k v (setO h b' o') n'=rr):CallLaw P f args h n k rr:=by
 refine hc.turn ?_
 rintro ρ w rv w' hi ⟨v1,h1,n1,σ,e,g,r⟩
 have e':RR.fin v1 h1 n1=RR.fin v h2 n2:=e
 cases e'
 have hb2:b' < n2:=by
  obtain ⟨r,base,h1,_⟩:=g.inv.obj b' o' ho
  exact g.inv.dom b' (by rw [h1]; simp)
 refine ⟨v,_,n',σ,hr,g.shrink (fun b o hg=>?_) hn ht,r⟩
 rw [za8 (by unfold top; omega)] at hg
 split at hg
 ·rename_i e; subst e; cases hg; exact ho
 ·obtain ⟨r,base,h1,_⟩:=hi.obj b o hg
  rw [hs b (hi.dom b (by rw [h1]; simp))]; exact hg
theorem CallLaw.lowW {g:H} {n0:Nat} {r2:RR} {k2:K} (hc:CallLaw P f args g n0 k2 r2) (hv:noP v=true) (hk:∀ v1 h1 n1,k2 v1 h1 n1=r2→v1=v) (hl:∀ b o,getO g b=some o→b < KG) (hg:∀ ρ w,Inv ρ h n w→Inv ρ g n0 w) (hr:k v h n=rr):CallLaw P f args h n k rr:=by
 have nol:∀ (ρ:Mp) r,¬ live ρ g r:=fun ρ r ⟨b,o,x,l1,l2,_⟩=>by have:=hl b o l2; omega
 have key:∀ (ρ:Mp) (w:World) (rv:Value) (w':World),Inv ρ h n w→Post ρ g n0 w k2 r2 rv w'→Post ρ h n w k rr rv w':=by
  rintro ρ w rv w' hi ⟨v1,h1,n1,σ,e,gg,r⟩
  have:=hk _ _ _ e; subst this
  have kp:∀ r,r < w.heap.size→w'.heap[r]?=w.heap[r]?:=fun r hr=>gg.keep r hr (nol ρ r)
  refine ⟨v1,h,n,ρ,hr,⟨⟨fun b o hb=>?_,hi.inj,hi.dom,fun b r x hb=>Nat.lt_of_lt_of_le (hi.rng b r x hb) gg.size,hi.lim,hi.st⟩,Mp.le_refl _,Nat.le_refl _,gg.size,fun r hr _=>kp r hr,fun r _ hl=>hl,gg.io⟩,zj3 _ _ hv r⟩
  obtain ⟨r,base,h1,h2⟩:=hi.obj b o hb
  exact ⟨r,base,h1,by rw [kp r (hi.rng _ _ _ h1)]; exact h2⟩
 rcases hc with ⟨c1,c2⟩ | c2
 ·refine .inl ⟨c1,fun ρ w as hi ha=>(c2 ρ w as (hg ρ w hi) ha).mono fun e w' hp=>?_⟩
  obtain ⟨rv,e1,hp⟩:=hp
  exact ⟨rv,e1,key _ _ _ _ hi hp⟩
 ·refine .inr fun ρ w as hi ha=>?_
  obtain ⟨rv,w',e1,hp⟩:=c2 ρ w as (hg ρ w hi) ha
  exact ⟨rv,w',e1,key _ _ _ _ hi hp⟩
theorem CallLaw.low {g:H} {n0:Nat} {r2:RR} {k2:K} (hc:CallLaw P f args g n0 k2 r2) (hv:noP v=true) (hk:∀ v1 h1 n1,k2 v1 h1 n1=r2→v1=v) (hg:∀ b o,getO g b=some o→b < KG∧getO h b=some o) (hn:n≤n0) (ht:n0≤18446744073709551615) (hr:k v h n=rr):CallLaw P f args h n k rr:=
 hc.lowW hv hk (fun b o e=>(hg b o e).1) (fun _ _ hi=>hi.prune (fun b o e=>(hg b o e).2) hn ht) hr
end
def N1:Nat:=9223372036854775808
def pchk (v:AV):K:=fun v' _ _=>br (samA v v') (.fin .undef .nil 0) .fail
def isU (r:RR):Bool:=@RR.rec (fun _=>Bool) false (fun _ _ _=>false) (fun _ _ _ _=>false) (fun _ _ _=>false) (fun v _ n=>match v with | .undef=>Nat.beq n 0 | _=>false) r
theorem zxo {r:RR} (h:isU r=true):∃ h',r=.fin .undef h' 0:=by
 cases r with
 | fin v h' n=>
  cases v<;>first
   | (have:n=0:=zak h; subst this; exact ⟨_,rfl⟩)
   | cases h
 | _=>cases h
theorem zdf {c:Bool} {a b rr:RR} (h:br c a b=rr):(c=true∧a=rr)∨b=rr:=by
 cases c
 ·exact .inr h
 ·exact .inl ⟨rfl,h⟩
end
end Go.VE
namespace Go.VE
noncomputable section
open Go
set_option linter.unusedVariables false
def zbh (v:AV) (f:AV→RR):RR:=f v
def zn5 (e:Env) (f:Env→RR):RR:=f e
def lt64 (a b:Nat):Bool:=Nat.blt ((a + 9223372036854775808) % 18446744073709551616) ((b + 9223372036854775808) % 18446744073709551616)
def le64 (a b:Nat):Bool:=Nat.ble ((a + 9223372036854775808) % 18446744073709551616) ((b + 9223372036854775808) % 18446744073709551616)
def zva (a b:Nat):Nat:=(a + b) % 18446744073709551616
def zw1 (a b:Nat):Nat:=(a + (18446744073709551616 - b)) % 18446744073709551616
def zvz (a b:Nat):Nat:=(a * b) % 18446744073709551616
section
variable {β:Type}
@[congr] theorem bindV_congr {a b:AV} {f:AV→RR} (h:a=b):zbh a f=zbh b f:=by rw [h]
@[congr] theorem bindE_congr {a b:Env} {f:Env→RR} (h:a=b):zn5 a f=zn5 b f:=by rw [h]
@[congr] theorem thenX_congr {a b:RR} {k:Env→H→Nat→RR} (h:a=b):zgu k a=zgu k b:=by rw [h]
@[congr] theorem outX_congr {i:Nat} {a b:RR} (h:a=b):outX i a=outX i b:=by rw [h]
@[congr] theorem endF_congr {rs:List LRes} {k:K} {a b:RR} (h:a=b):endF rs k a=endF rs k b:=by rw [h]
@[congr] theorem frc_congr {a b:Nat} {k:Nat→β} (h:a=b):frc a k=frc b k:=by rw [h]
@[congr] theorem br_congr {a b:Bool} {x y:β} (h:a=b):br a x y=br b x y:=by rw [h]
@[congr] theorem asInt_congr {a b:AV} {f:Nat→Nat→RR} (h:a=b):asInt a f=asInt b f:=by rw [h]
@[congr] theorem asBool_congr {a b:AV} {f:Bool→RR} (h:a=b):asBool a f=asBool b f:=by rw [h]
@[congr] theorem asPtr_congr {a b:AV} {f:Nat→Nat→RR} (h:a=b):zbx a f=zbx b f:=by rw [h]
@[congr] theorem asSl_congr {a b:AV} {f:Nat→Nat→Nat→RR} (h:a=b):asSl a f=asSl b f:=by rw [h]
@[congr] theorem int2_congr {kd:Nat} {a b c d:AV} {f:Nat→Nat→RR} (h:a=b) (h':c=d):int2 kd a c f=int2 kd b d f:=by rw [h,h']
@[congr] theorem str2_congr {a b c d:AV} {f:Nat→Nat→Nat→Nat→RR} (h:a=b) (h':c=d):str2 a c f=str2 b d f:=by rw [h,h']
@[congr] theorem bindF_congr {a b:RR} {f:AV→H→Nat→RR} (h:a=b):zml a f=zml b f:=by rw [h]
@[congr] theorem rdO_congr {i j:Nat} {a b:Option AO} {h:H} {n:Nat} {k:K} (h1:i=j) (h2:a=b):rdO i a h n k=rdO j b h n k:=by rw [h1,h2]
@[congr] theorem rdNO_congr {i j m:Nat} {a b:Option AO} {h:H} {n:Nat} {k:K} (h1:i=j) (h2:a=b):rdNO i m a h n k=rdNO j m b h n k:=by rw [h1,h2]
@[congr] theorem wrO_congr {b i j:Nat} {vs ws:AV} {a c:Option AO} {h:H} {n:Nat} {k:K} (h1:i=j) (h2:a=c) (h3:vs=ws):wrO b i vs a h n k=wrO b j ws c h n k:=by rw [h1,h2,h3]
@[congr] theorem idx_congr {a b:AV} {m l:Nat} {f:Nat→RR} (h:a=b) (h':m=l):idx a m f=idx b l f:=by rw [h,h']
@[congr] theorem kO_congr {a b:Option AV} {h:H} {n:Nat} {k:K} (e:a=b):kO a h n k=kO b h n k:=by rw [e]
@[congr] theorem kB_congr {a b:Option Bool} {h:H} {n:Nat} {k:K} (e:a=b):kB a h n k=kB b h n k:=by rw [e]
@[congr] theorem kN_congr {a b:Option Bool} {h:H} {n:Nat} {k:K} (e:a=b):kN a h n k=kN b h n k:=by rw [e]
@[congr] theorem kG_congr {a b:Option AV} {h:H} {n:Nat} {k:K} (e:a=b):kG a h n k=kG b h n k:=by rw [e]
@[congr] theorem kH_congr {v:AV} {a b:Option H} {n:Nat} {k:K} (e:a=b):kH v a n k=kH v b n k:=by rw [e]
@[congr] theorem small_congr {a b:Nat} {r:RR} (e:a=b):zf9 a r=zf9 b r:=by rw [e]
@[simp] theorem y_bindV {v:AV} {f:AV→RR}:zbh v f=f v:=id rfl
@[simp] theorem y_bindE {e:Env} {f:Env→RR}:zn5 e f=f e:=id rfl
@[simp] theorem y_brT {a b:β}:br true a b=a:=id rfl
@[simp] theorem y_brF {a b:β}:br false a b=b:=id rfl
@[simp] theorem y_frc {x:Nat} {k:Nat→β}:frc x k=k x:=zam x k
@[simp] theorem y_bltT {a b:Nat} (h:a < b):Nat.blt a b=true:=by rw [Nat.blt_eq]; exact h
@[simp] theorem y_bltF {a b:Nat} (h:b≤a):Nat.blt a b=false:=by
 cases e:Nat.blt a b
 ·rfl
 ·rw [Nat.blt_eq] at e; omega
@[simp] theorem y_bleT {a b:Nat} (h:a≤b):Nat.ble a b=true:=by rw [Nat.ble_eq]; exact h
@[simp] theorem y_bleF {a b:Nat} (h:b < a):Nat.ble a b=false:=by
 cases e:Nat.ble a b
 ·rfl
 ·rw [Nat.ble_eq] at e; omega
@[simp] theorem y_beqT {a b:Nat} (h:a=b):Nat.beq a b=true:=by rw [Nat.beq_eq]; exact h
@[simp] theorem y_beqF {a b:Nat} (h:a≠b):Nat.beq a b=false:=by
 cases e:Nat.beq a b
 ·rfl
 ·rw [Nat.beq_eq] at e; omega
@[simp] theorem y_lt64T {a b:Nat} (ha:a < b) (hb:b < 9223372036854775808):lt64 a b=true:=y_bltT (by omega)
@[simp] theorem y_lt64F {a b:Nat} (ha:b≤a) (hb:a < 9223372036854775808):lt64 a b=false:=y_bltF (by omega)
@[simp] theorem y_le64T {a b:Nat} (ha:a≤b) (hb:b < 9223372036854775808):le64 a b=true:=y_bleT (by omega)
@[simp] theorem y_le64F {a b:Nat} (ha:b < a) (hb:a < 9223372036854775808):le64 a b=false:=y_bleF (by omega)
@[simp] theorem y_add64 {a b:Nat} (h:a + b < 18446744073709551616):zva a b=a + b:=by unfold zva; omega
@[simp] theorem y_sub64 {a b:Nat} (h:b≤a) (h':a < 18446744073709551616):zw1 a b=a - b:=by unfold zw1; omega
@[simp] theorem y_mul64 {a b:Nat} (h:a * b < 18446744073709551616):zvz a b=a * b:=by unfold zvz; exact Nat.mod_eq_of_lt h
end
section
variable {L:Lv} {c:zbc} {e:Env} {h:H} {n:Nat} {k:K} {a b:X} {u v w:AV} {f:zbc→Env→Lo.Md} {β:Type}
open Lo
@[simp] theorem y_thenN {f:Env→H→Nat→RR}:zgu f (.nrm e h n)=f e h n:=id rfl
@[simp] theorem y_thenE {f:Env→H→Nat→RR} {i:Nat}:zgu f (.ext i e h n)=.ext i e h n:=id rfl
@[simp] theorem y_thenR {f:Env→H→Nat→RR}:zgu f (.ret e h n)=.ret e h n:=id rfl
@[simp] theorem y_outN {i:Nat}:outX i (.nrm e h n)=.nrm e h n:=id rfl
@[simp] theorem y_outE {i j:Nat}:outX i (.ext j e h n)=br (Nat.beq j i) (.nrm e h n) (.ext j e h n):=id rfl
@[simp] theorem y_outR {i:Nat}:outX i (.ret e h n)=.ret e h n:=id rfl
@[simp] theorem y_endN {rs:List LRes}:endF rs k (.nrm e h n)=resK e h n rs k:=id rfl
@[simp] theorem y_endR {rs:List LRes}:endF rs k (.ret e h n)=resK e h n rs k:=id rfl
@[simp ↓] theorem y_res1 {i:Nat}:resK e h n [.tmp i] k=k (eAt i e) h n:=id rfl
@[simp ↓] theorem y_res0:resK e h n [] k=k (.tup .nl) h n:=id rfl
@[simp ↓] theorem y_res2 {r s:LRes}:resK e h n [r,s] k=zgg e h n r fun v _ _=>zbh v fun v=>zgg e h n s fun u _ _=>zbh u fun u=>k (.tup (.cons v (.cons u .nl))) h n:=id rfl
@[simp ↓] theorem y_resT {i:Nat}:zgg e h n (.tmp i) k=k (eAt i e) h n:=id rfl
@[simp ↓] theorem y_resC {i:Nat}:zgg e h n (.cell1 i) k=zbx (eAt i e) fun b off=>rdO off (getO h b) h n k:=id rfl
@[simp ↓] theorem y_resN {i m:Nat}:zgg e h n (.cellN i m) k=zbx (eAt i e) fun b off=>rdNO off m (getO h b) h n k:=id rfl
@[simp ↓] theorem y_sq:@Pr.sq slow f b L e h n=zgu (fun e h n=>b L e h n) (f L.call e h n):=id rfl
@[simp ↓] theorem y_Q:@Pr.Q slow a b L e h n=zgu (fun e h n=>b L e h n) (a L e h n):=id rfl
@[simp ↓] theorem y_cd {g:Env→AV}:@Pr.cd slow g a b L e h n=asBool (g e) fun t=>br t (a L e h n) (b L e h n):=id rfl
@[simp ↓] theorem y_Bk {i:Nat}:@Pr.Bk slow i a L e h n=outX i (a L e h n):=id rfl
@[simp ↓] theorem y_on:on f L e h n=f L.call e h n:=id rfl
@[simp ↓] theorem y_R:Lo.R L e h n=.ret e h n:=id rfl
@[simp ↓] theorem y_ret:xRet L e h n=.ret e h n:=id rfl
@[simp ↓] theorem y_skip:zaa L e h n=.nrm e h n:=id rfl
@[simp ↓] theorem y_exit {i:Nat}:zae i L e h n=.ext i e h n:=id rfl
@[simp ↓] theorem y_nr:nr e h n=.nrm e h n:=id rfl
@[simp ↓] theorem y_mv:mv v k h n=zbh v fun v=>k v h n:=id rfl
@[simp ↓] theorem y_mi {t:Nat}:mi t v k h n=zbh v fun v=>k (.iface t v) h n:=id rfl
@[simp ↓] theorem y_G {t:Bool} {o:K→Md}:@Pr.G slow t v o k h n=br (ze7 t v) (o k h n) (k .undef h n):=id rfl
@[simp ↓] theorem y_dB {o:K→Md}:@Pr.dB slow o k h n=zml (o finK h n) (fun v h n=>zbh v fun v=>k v h n):=id rfl
@[simp ↓] theorem y_fa {o:Nat}:@Pr.fa slow o v k h n=zbx v fun b i=>frc (i + o) fun i=>k (.ptr b i) h n:=id rfl
@[simp ↓] theorem y_ld:@Pr.ld slow v k h n=zbx v fun b i=>rdO i (getO h b) h n fun v h n=>zbh v fun v=>k v h n:=id rfl
@[simp ↓] theorem y_ln {m:Nat}:@Pr.ln slow m v k h n=zbx v fun b i=>rdNO i m (getO h b) h n fun v h n=>zbh v fun v=>k v h n:=id rfl
@[simp ↓] theorem y_so {m:Nat}:@Pr.so slow m u v k h n=zbx u fun b i=>zbh v fun v=>br (Nat.beq (lenC (zav v)) m) (br (okCs (zav v)) (wrO b i (zav v) (getO h b) h n k) .fail) .fail:=id rfl
@[simp ↓] theorem y_nk:@Pr.nk slow v k h n=zbh v fun v=>zfl v h n k:=id rfl
@[simp ↓] theorem y_fd {o:Nat}:@Pr.fd slow o v k h n=zbh v fun v=>zfl v h n fun v h n=>zbx v fun b i=>frc (i + o) fun i=>rdO i (getO h b) h n fun v h n=>zbh v fun v=>k v h n:=id rfl
@[simp ↓] theorem y_ex {i:Nat}:@Pr.ex slow i v k h n=zbh v fun v=>extA v i h n fun v h n=>zbh v fun v=>k v h n:=id rfl
@[simp ↓] theorem y_pk:@Pr.pk slow u v w k h n=asBool u fun t=>br t (zbh v fun v=>k v h n) (zbh w fun v=>k v h n):=id rfl
@[simp ↓] theorem y_nt:@Pr.nt slow v k h n=asBool v fun t=>k (.bool (!t)) h n:=id rfl
@[simp ↓] theorem y_en:@Pr.en slow v k h n=zbh v fun v=>kB (zin v) h n k:=id rfl
@[simp ↓] theorem y_nn:@Pr.nn slow v k h n=zbh v fun v=>kN (zin v) h n k:=id rfl
@[simp ↓] theorem y_ls:@Pr.ls slow v k h n=zbh v fun v=>zl0 v h n k:=id rfl
@[simp ↓] theorem y_lz:@Pr.lz slow v k h n=zbh v fun v=>zgc v h n k:=id rfl
@[simp ↓] theorem y_ia {s:Nat}:@Pr.ia slow s u v k h n=asSl u fun b o l=>idx v l fun i=>frc (o + i * s) fun o=>k (.ptr b o) h n:=id rfl
@[simp ↓] theorem y_ix:@Pr.ix slow u v k h n=zbh u fun u=>zlx u v h n k:=id rfl
@[simp ↓] theorem y_ei {i:Nat}:@Pr.ei slow i u v k h n=zbh u fun u=>zbh v fun v=>kB (eqI i u v) h n k:=id rfl
@[simp ↓] theorem y_nw {o:AO}:@Pr.nw slow o k h n=alloc o h n fun h' m=>k (.ptr n 0) h' m:=id rfl
@[simp ↓] theorem y_bx:@Pr.bx slow v k h n=zbh v fun v=>br (okCs (zav v)) (alloc (.cells (lenC (zav v)) 0 (zd2 (zav v) 0 .nil)) h n fun h' m=>k (.ptr n 0) h' m) .fail:=id rfl
@[simp ↓] theorem y_tI {kd mo:Nat}:@Pr.tI slow kd mo v k h n=asInt v fun i a=>br (Nat.blt a (hiN i)) (frc (a % mo) fun c=>k (.int kd c) h n) (frc ((a + (18446744073709551616 - moN i)) % mo) fun c=>k (.int kd c) h n):=id rfl
@[simp ↓] theorem y_ad:@Pr.ad slow u v k h n=int2 3 u v fun a b=>frc (zva a b) fun c=>k (.int 3 c) h n:=id rfl
@[simp ↓] theorem y_sb:@Pr.sb slow u v k h n=int2 3 u v fun a b=>frc (zw1 a b) fun c=>k (.int 3 c) h n:=id rfl
@[simp ↓] theorem y_mu:@Pr.mu slow u v k h n=int2 3 u v fun a b=>frc (zvz a b) fun c=>k (.int 3 c) h n:=id rfl
@[simp ↓] theorem y_lt:@Pr.lt slow u v k h n=int2 3 u v fun a b=>k (.bool (lt64 a b)) h n:=id rfl
@[simp ↓] theorem y_le:@Pr.le slow u v k h n=int2 3 u v fun a b=>k (.bool (le64 a b)) h n:=id rfl
@[simp ↓] theorem y_z0 {o:Op'}:@Pr.z0 slow c e o k h n=o c [] e h n k:=id rfl
@[simp ↓] theorem y_cl {i:Nat} {l:List AV}:@Pr.cl slow c i l k h n=c i l h n k:=id rfl
@[simp ↓] theorem y_eq {g:AV→AV→Option Bool}:@Pr.eq slow g u v k h n=zbh u fun u=>zbh v fun v=>kB (g u v) h n k:=id rfl
end
section
variable {call:zbc} {L:Lv} {ls:List AV} {e:Env} {h:H} {n:Nat} {k:K} {x y z:Sx} {l:List LOper} {o:Op'} {a b:X} {β:Type}
@[simp] theorem y_bindF {v:AV} {f:AV→H→Nat→RR}:zml (.fin v h n) f=f v h n:=id rfl
@[simp] theorem y_finK {v:AV}:finK v h n=.fin v h n:=id rfl
@[simp] theorem y_wantT {c:Bool}:ze7 true (.bool c)=c:=id rfl
@[simp] theorem y_wantF {c:Bool}:ze7 false (.bool c)=!c:=id rfl
@[simp ↓] theorem y_sC {v:AV}:sC v ls e=v:=id rfl
@[simp] theorem y_args0 {i:Nat}:zhu [] i e=e:=id rfl
@[simp] theorem y_argsS {v:AV} {vs:List AV} {i:Nat}:zhu (v :: vs) i e=zhu vs (i + 1) (ePut v i e):=id rfl
@[simp] theorem y_eAt {i:Nat} {v:AV} (hi:i < 256):eAt i (ePut v i e)=v:=by rw [zji hi,if_pos rfl]
@[simp] theorem y_eNe {i j:Nat} {v:AV} (hi:i < 256) (hj:j≠i):eAt j (ePut v i e)=eAt j e:=by rw [zji hi,if_neg hj]
@[simp] theorem y_ev0:evL [] ls e=[]:=id rfl
@[simp] theorem y_evS {xs:List Sx}:evL (x :: xs) ls e=x ls e :: evL xs ls e:=id rfl
@[simp] theorem y_asInt {i u:Nat} {f:Nat→Nat→RR}:asInt (.int i u) f=f i u:=id rfl
@[simp] theorem y_asBool {c:Bool} {f:Bool→RR}:asBool (.bool c) f=f c:=id rfl
@[simp] theorem y_asPtr {i u:Nat} {f:Nat→Nat→RR}:zbx (.ptr i u) f=f i u:=id rfl
@[simp] theorem y_asSl {b o l c:Nat} {ex:Bool} {f:Nat→Nat→Nat→RR}:asSl (.sl b o l c ex) f=f b o l:=id rfl
@[simp] theorem y_int2 {kd a b:Nat} {f:Nat→Nat→RR}:int2 kd (.int kd a) (.int kd b) f=f a b:=by
 show br (Nat.beq kd kd) (br (Nat.beq kd kd) (f a b) .fail) .fail=_
 rw [Nat.beq_refl]; rfl
@[simp] theorem y_kO {v:AV}:kO (some v) h n k=k v h n:=id rfl
@[simp] theorem y_kB {v:Bool}:kB (some v) h n k=k (.bool v) h n:=id rfl
@[simp] theorem y_kN {v:Bool}:kN (some v) h n k=k (.bool (!v)) h n:=id rfl
@[simp] theorem y_kG {v:AV}:kG (some v) h n k=k (.agg v) h n:=id rfl
@[simp] theorem y_kH {v:AV} {g:H}:kH v (some g) n k=k v g n:=id rfl
@[simp] theorem y_small {m:Nat} {r:RR} (hm:m < 9223372036854775808):zf9 m r=r:=by unfold zf9; rw [y_bltT hm]; rfl
@[simp ↓] theorem y_mvO:oMv x call ls e h n k=k (x ls e) h n:=id rfl
@[simp ↓] theorem y_pick:zan x y z call ls e h n k=asBool (x ls e) fun t=>br t (k (y ls e) h n) (k (z ls e) h n):=id rfl
@[simp ↓] theorem y_call {f:Nat} {xs:List Sx}:zax f xs call ls e h n k=call f (evL xs ls e) h n k:=id rfl
@[simp ↓] theorem y_nilck:zaz x call ls e h n k=zfl (x ls e) h n k:=id rfl
@[simp] theorem y_nilckP {b o:Nat}:zfl (.ptr b o) h n k=k (.ptr b o) h n:=id rfl
@[simp ↓] theorem y_faddr {i:Nat}:zaj i x call ls e h n k=zbx (x ls e) fun b o=>frc (o + i) fun o=>k (.ptr b o) h n:=id rfl
@[simp ↓] theorem y_load1:zaf x call ls e h n k=zbx (x ls e) fun b o=>rdO o (getO h b) h n k:=id rfl
@[simp] theorem y_rdC {i m es:Nat} {t:T AV}:rdO i (some (.cells m es t)) h n k=br (Nat.blt i m) (k (zag t i) h n) .fail:=id rfl
@[simp] theorem y_rdB {i m u:Nat}:rdO i (some (.bytes m u)) h n k=br (Nat.blt i m) (frc (zar m u i) fun c=>k (.int 4 c) h n) .fail:=id rfl
@[simp] theorem y_rdN {i c m es:Nat} {t:T AV}:rdNO i m (some (.cells c es t)) h n k=br (Nat.ble (i + m) c) (k (.agg (zb7 t i m)) h n) .fail:=id rfl
@[simp] theorem y_cf0 {i:Nat} {t:T AV}:zb7 t i 0=.nl:=id rfl
@[simp] theorem y_cfS {i m:Nat} {t:T AV}:zb7 t i (m + 1)=.cons (zag t i) (zb7 t (i + 1) m):=id rfl
@[simp ↓] theorem y_store {m:Nat}:zdi m x y call ls e h n k=zbx (x ls e) fun b o=>zbh (y ls e) fun v=>br (Nat.beq (lenC (zav v)) m) (br (okCs (zav v)) (wrO b o (zav v) (getO h b) h n k) .fail) .fail:=id rfl
@[simp] theorem y_wrC {b i m es:Nat} {vs:AV} {t:T AV} (hb:10≤b):wrO b i vs (some (.cells m es t)) h n k=br (Nat.ble (i + lenC vs) m) (k .undef (setO h b (.cells m es (zd2 vs i t))) n) .fail:=by
 unfold wrO; rw [y_bleT (show KG≤b from hb)]; rfl
@[simp] theorem y_wrB {b i m u c:Nat} (hb:10≤b):wrO b i (.cons (.int 4 c) .nl) (some (.bytes m u)) h n k=br (Nat.blt i m) (frc (layB m u i 1 c) fun y=>k .undef (setO h b (.bytes m y)) n) .fail:=by
 unfold wrO; rw [y_bleT (show KG≤b from hb)]; rfl
attribute [simp] lenC zd2 okCs zj5 zke nthC catC zo4
@[simp] theorem y_cellsA {v:AV}:zav (.agg v)=v:=id rfl
@[simp] theorem y_cellsI {i u:Nat}:zav (.int i u)=.cons (.int i u) .nl:=id rfl
@[simp] theorem y_cellsB {c:Bool}:zav (.bool c)=.cons (.bool c) .nl:=id rfl
@[simp] theorem y_cellsS {i u:Nat}:zav (.str i u)=.cons (.str i u) .nl:=id rfl
@[simp] theorem y_cellsP {i u:Nat}:zav (.ptr i u)=.cons (.ptr i u) .nl:=id rfl
@[simp] theorem y_cellsL {b o l c:Nat} {ex:Bool}:zav (.sl b o l c ex)=.cons (.sl b o l c ex) .nl:=id rfl
@[simp] theorem y_cellsN:zav .nils=.cons .nils .nl:=id rfl
@[simp] theorem y_cellsNi:zav .nili=.cons .nili .nl:=id rfl
@[simp] theorem y_cellsNp:zav .nilp=.cons .nilp .nl:=id rfl
@[simp] theorem y_cellsIf {i:Nat} {v:AV}:zav (.iface i v)=.cons (.iface i v) .nl:=id rfl
@[simp] theorem y_alC {m es:Nat} {t:T AV} {f:H→Nat→RR} (hn:n < 18446744073709551615) (hm:m≤140737488355328):alloc (.cells m es t) h n f=f (setO h n (.cells m es t)) (n + 1):=by
 unfold alloc
 have hf:fitO (.cells m es t)=true:=y_bleT hm
 rw [y_bltT hn,y_brT,hf,y_brT,y_frc]
@[simp] theorem y_alB {m u:Nat} {f:H→Nat→RR} (hn:n < 18446744073709551615) (hm:m≤140737488355328):alloc (.bytes m u) h n f=f (setO h n (.bytes m u)) (n + 1):=by
 unfold alloc
 have hf:fitO (.bytes m u)=true:=y_bleT hm
 rw [y_bltT hn,y_brT,hf,y_brT,y_frc]
@[simp] theorem y_alM {m:List (AV × AV)} {f:H→Nat→RR} (hn:n < 18446744073709551615):alloc (.map m) h n f=f (setO h n (.map m)) (n + 1):=by
 unfold alloc
 rw [y_bltT hn,y_brT,show fitO _=true from rfl,y_brT,y_frc]
@[congr] theorem alloc_congr {o o':AO} {f:H→Nat→RR} (e:o=o'):alloc o h n f=alloc o' h n f:=by rw [e]
@[simp] theorem y_same {b:Nat} {o:AO} (hb:b < 18446744073709551615):getO (setO h b o) b=some o:=by rw [za8 (show b < top from hb),if_pos rfl]
@[simp] theorem y_neO {b c:Nat} {o:AO} (hb:b < 18446744073709551615) (hc:c≠b):getO (setO h b o) c=getO h c:=by rw [za8 (show b < top from hb),if_neg hc]
@[simp] theorem y_kne {b c:Nat} (hb:b < 18446744073709551615) (hc:c≠b):getO (zey h b) c=getO h c:=by rw [zdu (show b < top from hb),if_neg hc]
@[simp] theorem y_ksame {b:Nat} (hb:b < 18446744073709551615):getO (zey h b) b=none:=by rw [zdu (show b < top from hb),if_pos rfl]
@[simp ↓] theorem y_new {ao:AO}:oNew ao call ls e h n k=alloc ao h n fun h' m=>k (.ptr n 0) h' m:=id rfl
@[simp ↓] theorem y_add:oAdd 3 Lo.M x y call ls e h n k=int2 3 (x ls e) (y ls e) fun a b=>frc (zva a b) fun c=>k (.int 3 c) h n:=id rfl
@[simp ↓] theorem y_sub:oSub 3 Lo.M x y call ls e h n k=int2 3 (x ls e) (y ls e) fun a b=>frc (zw1 a b) fun c=>k (.int 3 c) h n:=id rfl
@[simp ↓] theorem y_mul:oMul 3 Lo.M x y call ls e h n k=int2 3 (x ls e) (y ls e) fun a b=>frc (zvz a b) fun c=>k (.int 3 c) h n:=id rfl
@[simp ↓] theorem y_ltO:oLt 3 Lo.Z Lo.M x y call ls e h n k=int2 3 (x ls e) (y ls e) fun a b=>k (.bool (lt64 a b)) h n:=id rfl
@[simp ↓] theorem y_leO:oLe 3 Lo.Z Lo.M x y call ls e h n k=int2 3 (x ls e) (y ls e) fun a b=>k (.bool (le64 a b)) h n:=id rfl
def minZ (a b:Nat):Nat:=br (Nat.blt ((b + Lo.Z) % Lo.M) ((a + Lo.Z) % Lo.M)) b a
@[simp] theorem y_minZ {a b:Nat} (ha:a < 9223372036854775808) (hb:b < 9223372036854775808):minZ a b=min a b:=by
 unfold minZ Lo.Z Lo.M
 by_cases hh:b < a
 ·rw [y_bltT (show (b + 9223372036854775808) % 18446744073709551616 < (a + 9223372036854775808) % 18446744073709551616 by omega),y_brT]; omega
 ·rw [y_bltF (show (a + 9223372036854775808) % 18446744073709551616≤(b + 9223372036854775808) % 18446744073709551616 by omega),y_brF]; omega
@[simp ↓] theorem y_min:oMin 3 Lo.Z Lo.M x y call ls e h n k=int2 3 (x ls e) (y ls e) fun a b=>k (.int 3 (minZ a b)) h n:=id rfl
@[simp ↓] theorem y_quo:oQuo 3 Lo.Z x y call ls e h n k=int2 3 (x ls e) (y ls e) fun a b=>br (Nat.blt a 9223372036854775808) (br (Nat.blt b 9223372036854775808) (br (Nat.beq b 0) .fail (frc (a / b) fun c=>k (.int 3 c) h n)) .fail) .fail:=id rfl
@[simp ↓] theorem y_rem:oRem 3 Lo.Z x y call ls e h n k=vRem 3 Lo.Z (x ls e) (y ls e) k h n:=id rfl
@[simp] theorem y_remA {a b:Nat}:vRem 3 Lo.Z (.int 3 a) (.int 3 b) k h n=br (Nat.blt a 9223372036854775808) (br (Nat.blt b 9223372036854775808) (br (Nat.beq b 0) .fail (frc (a % b) fun c=>k (.int 3 c) h n)) .fail) .fail:=by
 show remI 3 Lo.Z (.int 3 a) (.int 3 b) h n k=_
 unfold remI
 rw [y_int2]; rfl
@[simp ↓] theorem y_or {kd:Nat}:oOr kd x y call ls e h n k=int2 kd (x ls e) (y ls e) fun a b=>frc (Nat.lor a b) fun c=>k (.int kd c) h n:=id rfl
@[simp ↓] theorem y_xor {kd:Nat}:oXor kd x y call ls e h n k=int2 kd (x ls e) (y ls e) fun a b=>frc (Nat.xor a b) fun c=>k (.int kd c) h n:=id rfl
@[simp ↓] theorem y_and {kd:Nat}:oAnd kd x y call ls e h n k=andA kd (x ls e) (y ls e) h n k:=id rfl
@[simp] theorem y_andA {kd a b:Nat}:andA kd (.int kd a) (.int kd b) h n k=frc (Nat.land a b) fun c=>k (.int kd c) h n:=by
 show int2 kd (.int kd a) (.int kd b) _=_
 rw [y_int2]
@[simp ↓] theorem y_shl {kd bi mo:Nat}:oShl kd bi mo x y call ls e h n k=asInt (x ls e) fun i a=>asInt (y ls e) fun j b=>br (Nat.beq i kd) (br (Nat.blt b (hiN j)) (frc ((a * 2 ^ Nat.min b bi) % mo) fun c=>k (.int kd c) h n) .fail) .fail:=id rfl
@[simp ↓] theorem y_shr {kd bi hi:Nat}:oShr kd bi hi x y call ls e h n k=shrA kd bi hi (x ls e) (y ls e) h n k:=id rfl
@[simp] theorem y_shrA {kd bi hi i a j b:Nat}:shrA kd bi hi (.int i a) (.int j b) h n k=br (Nat.beq i kd) (br (Nat.blt b (hiN j)) (br (Nat.blt a hi) (frc (a / 2 ^ Nat.min b bi) fun c=>k (.int kd c) h n) .fail) .fail) .fail:=id rfl
attribute [simp] hiN
@[simp ↓] theorem y_toInt {kd mo:Nat}:zm8 kd mo x call ls e h n k=asInt (x ls e) fun i a=>br (Nat.blt a (hiN i)) (frc (a % mo) fun c=>k (.int kd c) h n) (frc ((a + (18446744073709551616 - moN i)) % mo) fun c=>k (.int kd c) h n):=id rfl
@[simp ↓] theorem y_not:oNot x call ls e h n k=asBool (x ls e) fun b=>k (.bool (!b)) h n:=id rfl
@[simp ↓] theorem y_oeq {f:AV→AV→Option Bool}:oEq f x y call ls e h n k=kB (f (x ls e) (y ls e)) h n k:=id rfl
@[simp] theorem y_nilT:zin .nili=some true:=id rfl
@[simp] theorem y_nilF {t:Nat} {v:AV}:zin (.iface t v)=some false:=id rfl
@[simp] theorem y_eqI {kd a b:Nat}:eqI kd (.int kd a) (.int kd b)=some (Nat.beq a b):=by
 show br (Nat.beq kd kd) (br (Nat.beq kd kd) (some (Nat.beq a b)) none) none=_
 rw [Nat.beq_refl]; rfl
@[simp] theorem y_eqSl1:eqSl .nils .nils=some true:=id rfl
@[simp] theorem y_eqSl2 {b o l c:Nat} {ex:Bool}:eqSl (.sl b o l c ex) .nils=some false:=id rfl
@[simp] theorem y_extA {v:AV} {i:Nat}:extA (.tup v) i h n k=kO (nthC i v) h n k:=id rfl
@[simp ↓] theorem y_lenSl:zcm x call ls e h n k=zgc (x ls e) h n k:=id rfl
@[simp] theorem y_lenSl1:zgc .nils h n k=k (.int 3 0) h n:=id rfl
@[simp] theorem y_lenSl2 {b o l c:Nat} {ex:Bool}:zgc (.sl b o l c ex) h n k=zf9 l (frc l fun m=>k (.int 3 m) h n):=id rfl
@[simp ↓] theorem y_iaddr {m:Nat}:zcl m x y call ls e h n k=asSl (x ls e) fun b o l=>idx (y ls e) l fun i=>frc (o + i * m) fun o=>k (.ptr b o) h n:=id rfl
@[simp] theorem y_idx {i u m:Nat} {f:Nat→RR}:idx (.int i u) m f=br (Nat.blt u (hiN i)) (br (Nat.blt u m) (f u) .fail) .fail:=id rfl
@[simp ↓] theorem y_xOps:xOps l L e h n=zcy L.call l [] e h n:=id rfl
@[simp] theorem y_nil:zcy call [] ls e h n=.nrm e h n:=id rfl
@[simp ↓] theorem y_p {d:Nat}:zcy call (Lo.p d o :: l) ls e h n=o call ls e h n fun v h n=>zbh v fun v=>zn5 (putE e d v) fun e=>zcy call l (v :: ls) e h n:=id rfl
@[simp ↓] theorem y_q:zcy call (Lo.q o :: l) ls e h n=o call ls e h n fun v h n=>zbh v fun v=>zcy call l (v :: ls) e h n:=id rfl
@[simp ↓] theorem y_m {i:Nat}:zcy call (Lo.m i :: l) ls e h n=zbh (eAt i e) fun v=>zcy call l (v :: ls) e h n:=id rfl
@[simp ↓] theorem y_w {i:Nat}:zcy call (Lo.w i :: l) ls e h n=zbh (nthD i ls) fun v=>zcy call l (v :: ls) e h n:=id rfl
@[simp ↓] theorem y_g {d i:Nat} {c:Bool}:zcy call (Lo.g d i c o :: l) ls e h n=br (ze7 c (nthD i ls)) (o call ls e h n fun v h n=>zbh v fun v=>zn5 (putE e d v) fun e=>zcy call l (v :: ls) e h n) (zn5 (putE e d .undef) fun e=>zcy call l (.undef :: ls) e h n):=id rfl
@[simp ↓] theorem y_L {i:Nat}:Lo.L i ls e=nthD i ls:=id rfl
@[simp ↓] theorem y_t {i:Nat}:Lo.t i ls e=eAt i e:=id rfl
@[simp ↓] theorem y_i {u:Nat}:Lo.i u ls e=.int 3 u:=id rfl
@[simp ↓] theorem y_s {m u:Nat}:Lo.s m u ls e=.str m u:=id rfl
@[simp ↓] theorem y_n0 {v:AV}:nthD 0 (v :: ls)=v:=id rfl
@[simp ↓] theorem y_nS {v:AV} {i:Nat}:nthD (i + 1) (v :: ls)=nthD i ls:=id rfl
@[simp] theorem y_putE0 {v:AV}:putE e 0 v=e:=id rfl
@[simp] theorem y_putE {v:AV} {d:Nat}:putE e (d + 1) v=ePut v (d + 1) e:=id rfl
end
section
variable {call:zbc} {L:Lv} {ls:List AV} {e:Env} {h:H} {n:Nat} {k:K}
@[congr] theorem nilckA_congr {a b:AV} (e:a=b):zfl a h n k=zfl b h n k:=by rw [e]
@[congr] theorem extA_congr {a b:AV} {i:Nat} (e:a=b):extA a i h n k=extA b i h n k:=by rw [e]
@[congr] theorem lenSlA_congr {a b:AV} (e:a=b):zgc a h n k=zgc b h n k:=by rw [e]
@[congr] theorem lenSA_congr {a b:AV} (e:a=b):zl0 a h n k=zl0 b h n k:=by rw [e]
@[congr] theorem lenMA_congr {a b:AV} (e:a=b):zrd a h n k=zrd b h n k:=by rw [e]
@[congr] theorem andA_congr {kd:Nat} {a b c d:AV} (e:a=b) (e':c=d):andA kd a c h n k=andA kd b d h n k:=by rw [e,e']
@[congr] theorem shrA_congr {kd bi hi:Nat} {a b c d:AV} (e:a=b) (e':c=d):shrA kd bi hi a c h n k=shrA kd bi hi b d h n k:=by rw [e,e']
@[congr] theorem idxSA_congr {a b c d:AV} (e:a=b) (e':c=d):zlx a c h n k=zlx b d h n k:=by rw [e,e']
@[congr] theorem copyA_congr {s:Nat} {a b c d:AV} (e:a=b) (e':c=d):zmq s a c h n k=zmq s b d h n k:=by rw [e,e']
@[congr] theorem appendXA_congr {s t:Nat} {a b c d:AV} (e:a=b) (e':c=d):zdq s t a c h n k=zdq s t b d h n k:=by rw [e,e']
@[congr] theorem lookR_congr {z:AV} {o:Bool} {a b:Option (Option AV)} (e:a=b):zkg z o a h n k=zkg z o b h n k:=by rw [e]
@[congr] theorem newSl_congr {a c:Nat} {o o':Option AO} (e:o=o'):zf8 a c o h n k=zf8 a c o' h n k:=by rw [e]
@[congr] theorem copyTo_congr {x:AV} {m m':Nat} {s s':Option Seg} (e1:m=m') (e:s=s'):zks x m s h n k=zks x m' s' h n k:=by rw [e,e1]
@[congr] theorem mkSlA_congr {s:Nat} {o:Nat→AO} {a b c d:AV} (e:a=b) (e':c=d):zm6 s o a c h n k=zm6 s o b d h n k:=by rw [e,e']
@[simp] theorem y_nT:(!true)=false:=id rfl
@[simp] theorem y_nF:(!false)=true:=id rfl
@[simp] theorem y_a0 {a:Nat}:a + 0=a:=id rfl
@[simp] theorem y_0a {a:Nat}:0 + a=a:=Nat.zero_add a
@[simp] theorem y_m1 {a:Nat}:a * 1=a:=Nat.mul_one a
end
section
@[simp] theorem y_okI {i u:Nat}:okC (.int i u)=true:=id rfl
@[simp] theorem y_okB {c:Bool}:okC (.bool c)=true:=id rfl
@[simp] theorem y_okP {i u:Nat}:okC (.ptr i u)=true:=id rfl
@[simp] theorem y_okL {b o l c:Nat} {ex:Bool}:okC (.sl b o l c ex)=true:=id rfl
@[simp] theorem y_okS {i u:Nat}:okC (.str i u)=true:=id rfl
@[simp] theorem y_okN:okC .nils=true:=id rfl
@[simp] theorem y_okNi:okC .nili=true:=id rfl
@[simp] theorem y_okNp:okC .nilp=true:=id rfl
@[simp] theorem y_okIf {i:Nat} {v:AV}:okC (.iface i v)=true:=id rfl
@[simp] theorem y_okM {b:Nat}:okC (.map b)=true:=id rfl
end
end
end Go.VE
namespace Go.VE
noncomputable section
open Go
set_option linter.unusedVariables false
section
variable {call:zbc} {L:Lv} {ls:List AV} {e:Env} {h:H} {n:Nat} {k:K} {x y:Sx}
@[simp ↓] theorem y_mkBs:zgs x y call ls e h n k=zm6 1 (fun c=>.bytes c 0) (x ls e) (y ls e) h n k:=id rfl
@[simp] theorem y_mkSlA {s l c:Nat} {o:Nat→AO}:zm6 s o (.int 3 l) (.int 3 c) h n k=br (Nat.ble l c) (br (Nat.blt c 9223372036854775808) (br (Nat.ble (c * s) 140737488355328) (zf8 l c (some (o c)) h n k) .fail) .fail) .fail:=by
 show int2 3 (.int 3 l) (.int 3 c) _=_
 rw [y_int2]
@[simp] theorem y_newSl {l c:Nat} {o:AO}:zf8 l c (some o) h n k=alloc o h n fun h' m=>k (.sl n 0 l c true) h' m:=id rfl
@[simp ↓] theorem y_copy {s:Nat}:zfm s x y call ls e h n k=zmq s (x ls e) (y ls e) h n k:=id rfl
@[simp] theorem y_copyN {s b o l c:Nat} {ex:Bool}:zmq s (.sl b o l c ex) .nils h n k=k (.int 3 0) h n:=by
 show zf9 (Nat.min 0 l) (zks (.sl b o l c ex) (Nat.min 0 l) (zcz h s (Nat.min 0 l) .nils) h n k)=_
 rw [show Nat.min 0 l=0 from Nat.zero_min l]
 rfl
theorem zvx (m x y:Nat):layB m x 0 m y=y:=by
 unfold layB
 simp only [zln,zg3]
 simp [Nat.mod_one]
theorem z0t {b c b' o' c' m' x' x:Nat} {ex ex':Bool} (h1:getO h b'=some (.bytes m' x')) (h2:getO h b=some (.bytes 128 x)) (h3:o' + 128≤m') (hb:10≤b):
  zmq 1 (.sl b 0 128 c ex) (.sl b' o' 128 c' ex') h n k=k (.int 3 128) (setO h b (.bytes 128 (cutB m' x' o' (o' + 128)))) n:=by
 show zf9 (Nat.min 128 128) (zks (.sl b 0 128 c ex) (Nat.min 128 128) (zcz h 1 (Nat.min 128 128) (.sl b' o' 128 c' ex')) h n k)=_
 rw [show Nat.min 128 128=128 from rfl]
 have e1:zcz h 1 128 (.sl b' o' 128 c' ex')=some (.bs 128 (cutB m' x' o' (o' + 128))):=by
  show segO 1 128 o' (getO h b')=_
  rw [h1]
  show br (Nat.ble (o' + 128) m') (some (Seg.bs 128 (cutB m' x' o' (o' + 128)))) none=_
  rw [y_bleT h3]; rfl
 have e2:ze9 h b 0 (.bs 128 (cutB m' x' o' (o' + 128)))=some (setO h b (.bytes 128 (cutB m' x' o' (o' + 128)))):=by
  unfold ze9
  show br (Nat.beq 128 0) (some h) (br (Nat.ble KG b) (match getO h b with | some (.bytes m x)=>br (Nat.ble (0 + 128) m) (some (setO h b (.bytes m (layB m x 0 128 (cutB m' x' o' (o' + 128)))))) none | _=>none) none)=_
  rw [h2,y_bleT (show KG≤b from hb)]
  show some (setO h b (.bytes 128 (layB 128 x 0 128 (cutB m' x' o' (o' + 128)))))=_
  rw [zvx]
 rw [e1]
 show zf9 128 (kH (.int 3 128) (ze9 h b 0 (.bs 128 (cutB m' x' o' (o' + 128)))) n k)=_
 rw [e2]; rfl
@[simp ↓] theorem y_lookup {ks ok:Bool} {z:AV}:zc7 ks z ok x y call ls e h n k=br (zgn ks (y ls e)) (zkg z ok (zq5 h (x ls e) (y ls e)) h n k) .fail:=id rfl
@[simp] theorem y_isKey {i u:Nat}:zgn false (.int i u)=true:=id rfl
@[simp] theorem y_findA {b:Nat} {v:AV}:zq5 h (.map b) v=zyo v (getO h b):=id rfl
@[simp] theorem y_findO {l:List (AV × AV)} {v:AV}:zyo v (some (.map l))=zg5 v l:=id rfl
@[simp] theorem y_look0 {z:AV}:zkg z true (some none) h n k=k (.tup (.cons z (.cons (.bool false) .nl))) h n:=id rfl
@[simp] theorem y_look1 {z v:AV}:zkg z true (some (some v)) h n k=k (.tup (.cons v (.cons (.bool true) .nl))) h n:=id rfl
@[simp ↓] theorem y_append {s t:Nat}:zaq s t x y call ls e h n k=zdq s t (x ls e) (y ls e) h n k:=id rfl
@[simp ↓] theorem y_buildBs0 {a:Nat}:zea a [] call ls e h n k=zf8 a a (some (.bytes a 0)) h n k:=id rfl
theorem y_appN {a b f c m x:Nat} {ex:Bool} (h1:getO h b=some (.bytes m x)) (h2:f + 128≤m) (hn:n < 9223372036854775808):
  zdq 1 1 (.sl a 0 0 0 true) (.sl b f 128 c ex) h n k=k (.sl n 0 128 128 false) (setO h n (.bytes 128 (cutB m x f (f + 128)))) (n + 1):=by
 have e1:zcz h 1 128 (.sl b f 128 c ex)=some (.bs 128 (cutB m x f (f + 128))):=by
  show segO 1 128 f (getO h b)=_
  rw [h1]
  show br (Nat.ble (f + 128) m) (some (Seg.bs 128 (cutB m x f (f + 128)))) none=_
  rw [y_bleT h2]; rfl
 show zjf 1 1 (.sl a 0 0 0 true) 128 (zcz h 1 128 (.sl b f 128 c ex)) h n k=_
 rw [e1]
 show zgl 128 (some (.bytes (0 + 128) (cutB m x f (f + 128)))) h n k=_
 show alloc (.bytes 128 (cutB m x f (f + 128))) h n (fun h' m=>k (.sl n 0 128 128 false) h' m)=_
 rw [y_alB (by omega) (by omega)]
theorem z0r {b x:Nat} (h1:getO h b=some (.bytes 128 x)):zap 1 (sC (.sl b 0 128 128 false)) none (some (sC (.int 3 128))) (some (sC (.int 3 128))) call ls e h n k=k (.sl b 0 128 128 true) h n:=by
 show br (zgm 1 (getO h b)) _ _=_
 rw [h1]
 rfl
end
section
variable {h:H} {n:Nat} {k:K}
@[simp ↓] theorem y_vI {i u:Nat} {f:AV→RR}:zbh (.int i u) f=f (.int i u):=id rfl
@[simp ↓] theorem y_vB {c:Bool} {f:AV→RR}:zbh (.bool c) f=f (.bool c):=id rfl
@[simp ↓] theorem y_vP {i u:Nat} {f:AV→RR}:zbh (.ptr i u) f=f (.ptr i u):=id rfl
@[simp ↓] theorem y_vL {b o l c:Nat} {ex:Bool} {f:AV→RR}:zbh (.sl b o l c ex) f=f (.sl b o l c ex):=id rfl
@[simp ↓] theorem y_vS {i u:Nat} {f:AV→RR}:zbh (.str i u) f=f (.str i u):=id rfl
@[simp ↓] theorem y_vN {f:AV→RR}:zbh .nils f=f .nils:=id rfl
@[simp ↓] theorem y_vNi {f:AV→RR}:zbh .nili f=f .nili:=id rfl
@[simp ↓] theorem y_vNp {f:AV→RR}:zbh .nilp f=f .nilp:=id rfl
@[simp ↓] theorem y_vM {b:Nat} {f:AV→RR}:zbh (.map b) f=f (.map b):=id rfl
@[simp ↓] theorem y_vIf {i:Nat} {v:AV} {f:AV→RR}:zbh (.iface i v) f=f (.iface i v):=id rfl
@[simp ↓] theorem y_vT {v:AV} {f:AV→RR}:zbh (.tup v) f=f (.tup v):=id rfl
@[simp ↓] theorem y_vA {v:AV} {f:AV→RR}:zbh (.agg v) f=f (.agg v):=id rfl
@[simp ↓] theorem y_vU {f:AV→RR}:zbh .undef f=f .undef:=id rfl
end
attribute [simp ↓] y_frc y_bindE y_brT y_brF y_thenN y_thenE y_thenR y_outN y_outE y_outR y_endN y_endR y_bindF y_asInt y_asBool y_asPtr y_asSl y_int2 y_kO y_kB y_kN y_kG y_kH y_small y_nilckP y_rdC y_rdB y_rdN y_alC y_alB y_alM y_extA y_lenSl1 y_lenSl2 y_idx y_andA y_shrA y_newSl y_mkSlA y_copyN y_look0 y_look1 y_wrC y_wrB
section
variable {call:zbc} {ls:List AV} {e:Env} {h:H} {n:Nat} {k:K}
@[simp ↓] theorem y_build {z:AV} {ps:List (Nat × Nat × Sx)}:zai z ps call ls e h n k=kG (zg0 ls e ps z) h n k:=id rfl
@[simp ↓] theorem y_bl0 {l:AV}:zg0 ls e [] l=some l:=id rfl
@[simp ↓] theorem y_blS {o s:Nat} {x:Sx} {ps:List (Nat × Nat × Sx)} {l:AV}:zg0 ls e ((o,s,x) :: ps) l=br (Nat.beq (lenC (zav (x ls e))) s) (br (okCs (zav (x ls e))) (br (Nat.ble (o + s) (lenC l)) (zg0 ls e ps (zo4 l o (zav (x ls e)))) none) none) none:=id rfl
theorem zmo {v:AV} (hv:okC v=true):zav v=.cons v .nl:=by cases v<;>first | rfl | cases hv
end
@[simp] theorem y_cpS {t:T AV} {i k:Nat} {v:AV} (h:k=i + 1) (hi:i < 9223372036854775808):zag (t.put (some v) k) i=v:=by
 subst h
 rw [zdt (show i < top by unfold top; omega),if_pos rfl]
@[simp] theorem y_cpN {t:T AV} {i k:Nat} {v:AV} (h:k≠i + 1) (h1:1≤k) (hi:k < 9223372036854775808):zag (t.put (some v) k) i=zag t i:=by
 obtain ⟨j,rfl⟩:∃ j,k=j + 1:=⟨k - 1,by omega⟩
 rw [zdt (show j < top by unfold top; omega),if_neg (by omega)]
theorem zbo {α:Type} {c:Bool} {a:Option α} {v:α} (h:br c a none=some v):c=true∧a=some v:=by
 cases c
 ·cases h
 ·exact ⟨rfl,h⟩
theorem zct {h:H} {b i:Nat} {v:AV} (e:cel h b i=v) (hv:v≠.undef):∃ m es t,getO h b=some (.cells m es t)∧i < m∧zag t i=v:=by
 unfold cel at e
 split at e
 ·rename_i m es t hg
  rw [zay] at e
  split at e
  ·rename_i hb
   rw [Nat.blt_eq] at hb
   exact ⟨m,es,t,hg,hb,e⟩
  ·exact absurd e.symm hv
 ·exact absurd e.symm hv
end
end Go.VE
namespace Go.VE
noncomputable section
open Go
set_option linter.unusedVariables false
theorem zgp {b:Env→H→Nat→RR} {id N:Nat} (I:Nat→Env→H→Nat→Prop) (Q:Env→H→Nat→Prop)
  (step:∀ i e h n,i < N→I i e h n→∃ e' h' n',b e h n=.nrm e' h' n'∧I (i + 1) e' h' n') (stop:∀ e h n,I N e h n→∃ e',b e h n=.ext id e' h n∧Q e' h n):
  ∀ (f i:Nat) (e:Env) (h:H) (n:Nat),i≤N→N - i < f→I i e h n→∃ e' h' n',zkh b f e h n=.ext id e' h' n'∧Q e' h' n':=by
 intro f
 induction f with
 | zero=>intro i e h n _ hf; omega
 | succ f ih=>
  intro i e h n hi hf hI
  have e1:zkh b (f + 1) e h n=zgu (zkh b f) (b e h n):=rfl
  rw [e1]
  by_cases hN:i=N
  ·subst hN
   obtain ⟨e',h1,h2⟩:=stop e h n hI
   rw [h1]
   exact ⟨e',h,n,rfl,h2⟩
  ·obtain ⟨e',h',n',h1,h2⟩:=step i e h n (by omega) hI
   rw [h1]
   exact ih (i + 1) e' h' n' (by omega) (by omega) h2
section
variable {call:zbc} {L:Lv} {ls:List AV} {e:Env} {h:H} {n:Nat} {k:K} {x y:Sx} {e0:Env} {fin:List AV→Sts→Env→H→Nat→RR} {ld:List DOper} {sts:Sts} {qs:List Nat} {c:Nat} {next:RR} {o:Op'}
@[simp] theorem y_Lp' {a:X}:@Lo.Pr.Lp Lo.slow a L e h n=zkh (a L) 1000000 e h n:=id rfl
@[simp ↓] theorem y_xDr:xDr ld L e h n=runD L.call e (fun ls sts e' h' n'=>chkD L.call e ((h',n') :: sts) (.nrm e' h' n') ld.reverse ls) ld [] [] e h n:=id rfl
@[simp ↓] theorem y_xDrM:xDrM ld L e h n=runD L.call e (fun ls sts e' h' n'=>br (zm7 sts n') (chkD L.call e ((h',n') :: sts) (.nrm e' h' n') ld.reverse ls) .fail) ld [] [] e h n:=id rfl
@[simp] theorem y_Dnil:runD call e0 fin [] ls sts e h n=fin ls sts e h n:=id rfl
@[simp ↓] theorem y_Dp {d:Nat}:runD call e0 fin (Lo.D (Lo.p d o) c qs :: ld) ls sts e h n=znv c (o call ls e0 h n) fun v h' n'=>zbh v fun v=>zn5 (putE e d v) fun e=>runD call e0 fin ld (v :: ls) ((h,n) :: sts) e h' n':=id rfl
@[simp ↓] theorem y_Dq:runD call e0 fin (Lo.D (Lo.q o) c qs :: ld) ls sts e h n=znv c (o call ls e0 h n) fun v h' n'=>zbh v fun v=>runD call e0 fin ld (v :: ls) ((h,n) :: sts) e h' n':=id rfl
@[simp ↓] theorem y_Dm {i:Nat}:runD call e0 fin (Lo.D (Lo.m i) 2 qs :: ld) ls sts e h n=zbh (eAt i e0) fun v=>runD call e0 fin ld (v :: ls) ((h,n) :: sts) e h n:=id rfl
@[simp ↓] theorem y_Dw {i:Nat}:runD call e0 fin (Lo.D (Lo.w i) 2 qs :: ld) ls sts e h n=zbh (nthD i ls) fun v=>runD call e0 fin ld (v :: ls) ((h,n) :: sts) e h n:=id rfl
@[simp ↓] theorem y_step0 {f:K→RR} {k:K}:znv 0 f k=zml (f finK) k:=id rfl
@[simp ↓] theorem y_step1 {f:K→RR} {k:K}:znv 1 f k=f k:=id rfl
@[simp ↓] theorem y_step2 {f:K→RR} {k:K}:znv 2 f k=f k:=id rfl
@[simp] theorem y_cnil:chkD call e0 sts next [] ls=next:=id rfl
@[simp ↓] theorem y_cD0 {lo:LOper} {v:AV}:chkD call e0 sts next (Lo.D lo c [] :: ld) (v :: ls)=chkD call e0 sts next ld ls:=by
 show br (za4 ls lo.guard) (zlo _ v sts _ []) (chkD call e0 sts next ld ls)=_
 cases za4 ls lo.guard<;>rfl
@[simp ↓] theorem y_cDq {v:AV} {q:Nat}:chkD call e0 sts next (Lo.D (Lo.q o) c (q :: qs) :: ld) (v :: ls)=zlo (o call ls e0) v sts (chkD call e0 sts next ld ls) (q :: qs):=id rfl
@[simp ↓] theorem y_qnil {op:H→Nat→K→RR} {v:AV}:zlo op v sts next []=next:=id rfl
@[simp ↓] theorem y_qcons {op:H→Nat→K→RR} {v:AV} {q:Nat}:zlo op v sts next (q :: qs)=atS q sts fun h n=>op h n fun v' _ _=>br (eqAV v v') (zlo op v sts next qs) .fail:=id rfl
@[simp ↓] theorem y_at0 {s:H × Nat} {f:H→Nat→RR}:atS 0 (s :: sts) f=f s.1 s.2:=id rfl
@[simp ↓] theorem y_atS {s:H × Nat} {q:Nat} {f:H→Nat→RR}:atS (q + 1) (s :: sts) f=atS q sts f:=id rfl
@[simp] theorem y_mono0 {m:Nat}:zm7 [] m=true:=id rfl
@[simp] theorem y_monoS {m:Nat} {s:H × Nat}:zm7 (s :: sts) m=br (Nat.ble s.2 m) (zm7 sts s.2) false:=id rfl
@[simp] theorem y_eqI' {i u:Nat}:eqAV (.int i u) (.int i u)=true:=by
 show br (Nat.beq i i) (Nat.beq u u) false=true
 rw [Nat.beq_refl,Nat.beq_refl]; rfl
@[congr] theorem chkD_congr {l l':List DOper} (e:l=l'):chkD call e0 sts next l ls=chkD call e0 sts next l' ls:=by rw [e]
@[simp ↓] theorem y_sliceT {b f l c:Nat} {lo:Nat}:zap 1 (sC (.sl b f l c true)) (some (sC (.int 3 lo))) none none call ls e h n k=br (Nat.blt lo 9223372036854775808) (br (Nat.ble lo l) (br (Nat.ble l c) (k (.sl b (br (Nat.beq c lo) f (f + lo * 1)) (l - lo) (c - lo) true) h n) .fail) .fail) .fail:=by
 show zkd 1 b f c true (br (Nat.blt lo 9223372036854775808) (some lo) none) (some l) (some c) h n k=_
 cases Nat.blt lo 9223372036854775808
 ·rfl
 ·have e:Nat.ble c c=true:=y_bleT (Nat.le_refl c)
  show br (Nat.ble lo l) (br (Nat.ble l c) (br (Nat.ble c c) (k (.sl b (br true (br (Nat.beq c lo) f (f + lo * 1)) (f + lo * 1)) (l - lo) (c - lo) true) h n) RR.fail) RR.fail) RR.fail=_
  rw [e]; rfl
@[simp ↓] theorem y_sliceLi {i u s:Nat}:zap s (Lo.L i) (some (Lo.i u)) none none call ls e h n k=zap s (sC (nthD i ls)) (some (sC (.int 3 u))) none none call ls e h n k:=id rfl
@[simp ↓] theorem y_mul7:oMul 7 Lo.M x y call ls e h n k=int2 7 (x ls e) (y ls e) fun a b=>frc (a * b % 18446744073709551616) fun c=>k (.int 7 c) h n:=id rfl
def oneT (v:AV):T AV:=(zfw (.cons (.int 3 0) .nl) 1 1).put (some v) 1
@[simp ↓] theorem y_buildSl1 {u:Nat}:zah 1 1 (.cons (.int 3 0) .nl) [(0,sC (.int 3 u))] call ls e h n k=alloc (.cells 1 1 (oneT (.int 3 u))) h n fun h' m=>k (.sl n 0 1 1 true) h' m:=id rfl
theorem zr1 {o:AV} {i tb:Nat} {t1:T AV} (ho:(i=0∧o=.nils)∨∃ b' t,o=.sl b' 0 i i false∧0 < i∧10≤b'∧b' < n∧b'≠tb∧getO h b'=some (.cells i 1 t)) (htb:getO h tb=some (.cells 1 1 t1)) (hi:i < 100000) (hn:n < 9223372036854775808):
  ∃ h' t',(∀ k:K,zdq 1 8 o (.sl tb 0 1 1 true) h n k=k (.sl n 0 (i + 1) (i + 1) false) h' (n + 1))∧getO h' n=some (.cells (i + 1) 1 t')∧∀ b,b≠n→(∀ b',o=.sl b' 0 i i false→b≠b')→getO h' b=getO h b:=by
 have es:zcz h 1 1 (.sl tb 0 1 1 true)=some (.vs 1 0 t1):=by
  show segO 1 1 0 (getO h tb)=_
  rw [htb]; rfl
 rcases ho with ⟨rfl,rfl⟩ | ⟨b',t,rfl,h0,hb,hbn,hbt,hg⟩
 ·refine ⟨setO h n (.cells 1 1 (zio .nil 1 0 t1 0)),_,fun k=>?_,y_same (by omega),fun b hb _=>y_neO (by omega) hb⟩
  show zjf 1 8 .nils 1 (zcz h 1 1 (.sl tb 0 1 1 true)) h n k=_
  rw [es]
  show alloc (.cells (0 + 1) 1 (zio .nil 1 0 t1 0)) h n (fun h' m=>k (.sl n 0 1 1 false) h' m)=_
  rw [y_alC (by omega) (by omega)]
 ·have es2:zcz h 1 i (.sl b' 0 i i false)=some (.vs (i * 1) 0 t):=by
   show br (Nat.beq i 0) _ (segO 1 i 0 (getO h b'))=_
   rw [y_beqF (by omega),hg]
   show br (Nat.ble (0 + i * 1) i) (some (Seg.vs (i * 1) 0 t)) none=_
   rw [y_bleT (by omega)]; rfl
  refine ⟨setO (zey h b') n (.cells (i * 1 + 1) 1 (zio t 1 0 t1 (i * 1))),zio t 1 0 t1 (i * 1),fun k=>?_,by rw [y_same (by omega),Nat.mul_one],fun b h1 h2=>by rw [y_neO (by omega) h1,y_kne (by omega) (h2 b' rfl)]⟩
  show zjf 1 8 (.sl b' 0 i i false) 1 (zcz h 1 1 (.sl tb 0 1 1 true)) h n k=_
  rw [es]
  show br (Nat.blt (i + 1) 140737488355328) (br (Nat.ble ((i + 1) * 8) 140737488355328) (br (Nat.ble (i + 1) i) _ (br (br false true (br (Nat.ble KG b') (zgm 1 (getO h b')) false)) (zgl (i + 1) (zy3 1 (zcz h 1 i (.sl b' 0 i i false)) (.vs 1 0 t1)) (br false h (zey h b')) n k) .fail)) .fail) .fail=_
  rw [y_bltT (by omega),y_brT,y_bleT (by omega),y_brT,y_bleF (by omega),y_brF,y_bleT (show KG≤b' from hb),hg,es2]
  show alloc (.cells (i * 1 + 1) 1 (zio t 1 0 t1 (i * 1))) (zey h b') n (fun h' m=>k (.sl n 0 (i + 1) (i + 1) false) h' m)=_
  rw [y_alC (by omega) (by omega)]
theorem zxj {b f c m x:Nat} {ex:Bool} (h1:getO h b=some (.bytes m x)) (h2:f + 128≤m) (hn:n < 9223372036854775808):
  zdq 1 1 .nils (.sl b f 128 c ex) h n k=k (.sl n 0 128 128 false) (setO h n (.bytes 128 (cutB m x f (f + 128)))) (n + 1):=by
 have e1:zcz h 1 128 (.sl b f 128 c ex)=some (.bs 128 (cutB m x f (f + 128))):=by
  show segO 1 128 f (getO h b)=_
  rw [h1]
  show br (Nat.ble (f + 128) m) (some (Seg.bs 128 (cutB m x f (f + 128)))) none=_
  rw [y_bleT h2]; rfl
 show zjf 1 1 .nils 128 (zcz h 1 128 (.sl b f 128 c ex)) h n k=_
 rw [e1]
 show alloc (.bytes 128 (cutB m x f (f + 128))) h n (fun h' m=>k (.sl n 0 128 128 false) h' m)=_
 rw [y_alB (by omega) (by omega)]
@[simp] theorem y_clipN:zap 1 (sC .nils) none (some (sC (.int 3 0))) (some (sC (.int 3 0))) call ls e h n k=k .nils h n:=id rfl
theorem z0s {b l:Nat} {t:T AV} (h1:getO h b=some (.cells l 1 t)) (h0:0 < l) (hl:l < 1000000):zap 1 (sC (.sl b 0 l l false)) none (some (sC (.int 3 l))) (some (sC (.int 3 l))) call ls e h n k=k (.sl b 0 l l true) h n:=by
 have e1:Nat.blt l 9223372036854775808=true:=y_bltT (by omega)
 show br (zgm 1 (getO h b)) (zkd 1 b 0 l (br true (br false true (Nat.blt 0 l)) false) (some 0) (br (Nat.blt l 9223372036854775808) (some l) none) (br (Nat.blt l 9223372036854775808) (some l) none) h n k) .fail=_
 rw [h1,e1]
 show br (Nat.ble 0 l) (br (Nat.ble l l) (br (Nat.ble l l) (k (.sl b (br (Nat.blt 0 l) (br (Nat.beq l 0) 0 (0 + 0 * 1)) (0 + 0 * 1)) (l - 0) (l - 0) (Nat.blt 0 l)) h n) RR.fail) RR.fail) RR.fail=_
 rw [y_bleT (Nat.zero_le l),y_bleT (Nat.le_refl l),y_bltT h0,y_beqF (by omega)]
 rfl
end
end
end Go.VE
