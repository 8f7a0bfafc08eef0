/- The evaluator, part 4: definitions and their laws, over any program. No condition. -/
import Derived.Laws.Sem
import Derived.Laws.Cells
import Derived.Laws.World
import Derived.Test.YtjpelmgihpmohaaGreatDoorVE3
set_option linter.all false
namespace Go.VE
noncomputable section
open Go
section
variable {P:Program} {w:World}
theorem zac {t:TypeId} {d:TypeDesc} (h:P.underlying t=some d):(underlying t).run P w=.ok d w:=by
 simp [underlying,program,Sem.run,h]
theorem zch {t:TypeId} {i:TypeInfo} (h:P.info? t=some i):(typeInfo t).run P w=.ok i w:=by
 simp [typeInfo,program,Sem.run,h]
theorem zaw {t:TypeId} {i:TypeInfo} (h:P.info? t=some i):(sizeOf t).run P w=.ok i.size w:=by
 simp [sizeOf,zch h]
theorem zbj {t:TypeId} {i:TypeInfo} {z:Value} (h:P.info? t=some i) (hz:i.zero=some z):(zeroValue t).run P w=.ok z w:=by
 simp [zeroValue,zch h,hz]
def aggD:TypeDesc→Bool
 | .struct _=>true
 | .array _ _=>true
 | _=>false
theorem zft {t:TypeId} {d:TypeDesc} (h:P.underlying t=some d):(isAgg t).run P w=.ok (aggD d) w:=by
 unfold isAgg
 simp only [Sem.run_bind,zac h,Result.andThen_ok]
 cases d<;>rfl
theorem zcq (r o j:Nat):Addr.add ⟨r,o,none⟩ j=⟨r,o + j,none⟩:=by
 unfold Addr.add
 by_cases h:j=0
 ·subst h; simp
 ·simp [h]
theorem zhz {r o:Nat} {c:Array Value} {e:TypeId} {fz:Nat × Nat} (h:w.heap[r]?=some (.cells c e fz)):w.cell? ⟨r,o,none⟩=c[o]?:=by
 simp [World.cell?,h]
theorem zsp {r o:Nat} {c:Array Value} {e:TypeId} {fz:Nat × Nat} (h:w.heap[r]?=some (.cells c e fz)) (hf:¬ (fz.1≤o∧o < fz.2)):w.frozen? ⟨r,o,none⟩=false:=by
 obtain ⟨lo,hi⟩:=fz
 simp only [World.frozen?,h]
 simp only [Bool.and_eq_false_iff,decide_eq_false_iff_not]
 simp only at hf
 omega
def zed (c:Array Value):Nat→List Value→Array Value
 | _,[]=>c
 | o,v :: l=>zed (c.setIfInBounds o v) (o + 1) l
theorem zau (l:List Value):∀ (c:Array Value) (o:Nat),(zed c o l).size=c.size:=by
 induction l with
 | nil=>intro c o; rfl
 | cons v l ih=>intro c o; simp [zed,ih]
theorem zbq (l:List Value):∀ (c:Array Value) (o j:Nat),o + l.length≤c.size→
  (zed c o l)[j]?=if o≤j∧j < o + l.length then l[j - o]? else c[j]?:=by
 induction l with
 | nil=>intro c o j _; simp only [zed,List.length_nil]; rw [if_neg (by omega)]
 | cons v l ih=>
  intro c o j h
  simp only [List.length_cons] at h ⊢
  simp only [zed]
  rw [ih _ _ _ (by simp; omega)]
  by_cases h1:o + 1≤j∧j < o + 1 + l.length
  ·rw [if_pos h1,if_pos (by omega)]
   have:j - o=(j - (o + 1)) + 1:=by omega
   rw [this]; rfl
  ·rw [if_neg h1]
   by_cases h2:j=o
   ·subst h2
    have hj:j < c.size:=by omega
    rw [if_pos (by omega)]
    simp [hj]
   ·rw [if_neg (by omega),Array.getElem?_setIfInBounds_ne (by omega)]
theorem zul {r o:Nat} {c:Array Value} {e:TypeId} {fz:Nat × Nat} {v:Value} (h:w.heap[r]?=some (.cells c e fz)) (ho:o < c.size)
  (hf:¬ (fz.1≤o∧o < fz.2)) (hv:zn9 v):(store ⟨r,o,none⟩ v).run P w=.ok () (w.setCell ⟨r,o,none⟩ v):=by
 have h1:w.cell? ⟨r,o,none⟩=some c[o]:=by rw [zhz h]; simp [ho]
 have h2:=zsp (w:=w) h hf
 unfold store
 cases v<;>first | exact hv.elim | simp [Sem.run,h1,h2]
theorem znu {r o:Nat} {c:Array Value} {e:TypeId} {fz:Nat × Nat} {v:Value} (h:w.heap[r]?=some (.cells c e fz)):
  (w.setCell ⟨r,o,none⟩ v).heap[r]?=some (.cells (c.setIfInBounds o v) e fz)∧(∀ q,q≠r→(w.setCell ⟨r,o,none⟩ v).heap[q]?=w.heap[q]?)∧(w.setCell ⟨r,o,none⟩ v).heap.size=w.heap.size:=by
 refine ⟨?_,fun q hq=>?_,by simp⟩
 ·simp [World.setCell,Array.getElem?_modify,h]
 ·simp only [World.setCell,Array.getElem?_modify]
  rw [if_neg (by omega)]
theorem zbk (vs:List Value):∀ {w:World} {r o i:Nat} {c:Array Value} {e:TypeId} {fz:Nat × Nat},w.heap[r]?=some (.cells c e fz)→o + i + vs.length≤c.size→
  (∀ j,o + i≤j→j < o + i + vs.length→¬ (fz.1≤j∧j < fz.2))→(∀ v ∈ vs,zn9 v)→
  ∃ w',(storeCells ⟨r,o,none⟩ vs i).run P w=.ok () w'∧w'.heap[r]?=some (.cells (zed c (o + i) vs) e fz)∧(∀ q,q≠r→w'.heap[q]?=w.heap[q]?)∧w'.heap.size=w.heap.size∧w'.os=w.os∧w'.output=w.output:=by
 induction vs with
 | nil=>intro w r o i c e fz h _ _ _; exact ⟨w,by simp [storeCells],h,fun _ _=>rfl,rfl,rfl,rfl⟩
 | cons v vs ih=>
  intro w r o i c e fz h hs hf hv
  simp only [List.length_cons] at hs hf
  obtain ⟨g1,g2,g3⟩:=znu (o:=o + i) (v:=v) h
  obtain ⟨w',r1,r2,r3,r4,r5⟩:=ih (w:=w.setCell ⟨r,o + i,none⟩ v) (o:=o) (i:=i + 1) g1 (by simp; omega) (fun j h1 h2=>hf j (by omega) (by omega)) (fun u hu=>hv u (List.mem_cons_of_mem _ hu))
  refine ⟨w',?_,r2,fun q hq=>(r3 q hq).trans (g2 q hq),r4.trans g3,r5⟩
  unfold storeCells
  simp only [Sem.run_bind,zcq]
  rw [zul (P:=P) h (by omega) (hf _ (by omega) (by omega)) (hv v (List.mem_cons_self ..))]
  simp only [Result.andThen_ok]
  exact r1
theorem zcv {r o n:Nat} {c:Array Value} {e:TypeId} {fz:Nat × Nat} (h:w.heap[r]?=some (.cells c e fz)) (hs:o + n≤c.size):
  (loadCells ⟨r,o,none⟩ n).run P w=.ok (c.extract o (o + n)) w:=by
 have h1:=run_loadCells_list (P:=P) (w:=w) ⟨r,o,none⟩ (c.extract o (o + n)).toList (fun j v hj=>by
  rw [zcq,zhz h]
  rw [Array.getElem?_toList,Array.getElem?_extract] at hj
  split at hj
  ·rw [← hj]
  ·simp at hj)
 simp only [Array.length_toList,Array.size_extract] at h1
 have e1:min (o + n) c.size - o=n:=by omega
 rw [e1] at h1
 exact h1
end
end
end Go.VE
namespace Go.VE
noncomputable section
open Go
theorem zab {c:Bool} {a rr:RR} (h:br c a .fail=rr) (hne:rr≠.fail):c=true∧a=rr:=by
 cases c
 ·exact absurd h.symm hne
 ·exact ⟨rfl,h⟩
theorem za3 {α:Type} {c:Bool} {a:Option α} {x:α} (h:br c a none=some x):c=true∧a=some x:=by
 cases c
 ·cases h
 ·exact ⟨rfl,h⟩
theorem zbt {v:AV} {f:Nat→Nat→RR} {rr:RR} (h:asInt v f=rr) (hne:rr≠.fail):∃ k u,v=.int k u∧f k u=rr:=by
 cases v<;>first | exact ⟨_,_,rfl,h⟩ | exact absurd h.symm hne
theorem zhv {v:AV} {f:Bool→RR} {rr:RR} (h:asBool v f=rr) (hne:rr≠.fail):∃ b,v=.bool b∧f b=rr:=by
 cases v<;>first | exact ⟨_,rfl,h⟩ | exact absurd h.symm hne
theorem zbu {v:AV} {f:Nat→Nat→RR} {rr:RR} (h:zbx v f=rr) (hne:rr≠.fail):∃ b o,v=.ptr b o∧f b o=rr:=by
 cases v<;>first | exact ⟨_,_,rfl,h⟩ | exact absurd h.symm hne
theorem zvb {v:AV} {f:Nat→Nat→Nat→RR} {rr:RR} (h:asSl v f=rr) (hne:rr≠.fail):∃ b o l c ex,v=.sl b o l c ex∧f b o l=rr:=by
 cases v<;>first | exact ⟨_,_,_,_,_,rfl,h⟩ | exact absurd h.symm hne
theorem zce {kd:Nat} {x y:AV} {f:Nat→Nat→RR} {rr:RR} (h:int2 kd x y f=rr) (hne:rr≠.fail):∃ a b,x=.int kd a∧y=.int kd b∧f a b=rr:=by
 obtain ⟨i,a,e1,h1⟩:=zbt h hne
 obtain ⟨j,b,e2,h2⟩:=zbt h1 hne
 obtain ⟨h3,h4⟩:=zab h2 hne
 obtain ⟨h5,h6⟩:=zab h4 hne
 rw [Nat.beq_eq] at h3 h5
 subst h3; subst h5
 exact ⟨a,b,e1,e2,h6⟩
theorem ztb {v:Option AV} {h:H} {n:Nat} {k:K} {rr:RR} (e:kO v h n k=rr) (hne:rr≠.fail):∃ a,v=some a∧k a h n=rr:=by
 cases v
 ·exact absurd e.symm hne
 ·exact ⟨_,rfl,e⟩
theorem zmy {v:Option Bool} {h:H} {n:Nat} {k:K} {rr:RR} (e:kB v h n k=rr) (hne:rr≠.fail):∃ a,v=some a∧k (.bool a) h n=rr:=by
 cases v
 ·exact absurd e.symm hne
 ·exact ⟨_,rfl,e⟩
theorem zxq {v:Option Bool} {h:H} {n:Nat} {k:K} {rr:RR} (e:kN v h n k=rr) (hne:rr≠.fail):∃ a,v=some a∧k (.bool (!a)) h n=rr:=by
 cases v
 ·exact absurd e.symm hne
 ·exact ⟨_,rfl,e⟩
theorem kG_inv {v:Option AV} {h:H} {n:Nat} {k:K} {rr:RR} (e:kG v h n k=rr) (hne:rr≠.fail):∃ a,v=some a∧k (.agg a) h n=rr:=by
 cases v
 ·exact absurd e.symm hne
 ·exact ⟨_,rfl,e⟩
theorem zxp {v:AV} {h:Option H} {n:Nat} {k:K} {rr:RR} (e:kH v h n k=rr) (hne:rr≠.fail):∃ a,h=some a∧k v a n=rr:=by
 cases h
 ·exact absurd e.symm hne
 ·exact ⟨_,rfl,e⟩
theorem zdy {o:AO} {h:H} {n:Nat} {f:H→Nat→RR} {rr:RR} (e:alloc o h n f=rr) (hne:rr≠.fail):n < top∧fitO o=true∧f (setO h n o) (n + 1)=rr:=by
 unfold alloc at e
 obtain ⟨h1,e⟩:=zab e hne
 obtain ⟨h2,e⟩:=zab e hne
 rw [zam] at e
 rw [Nat.blt_eq] at h1
 exact ⟨h1,h2,e⟩
def Mp.ext (ρ:Mp) (n:Nat) (x:Nat × Nat) (y:Nat × Nat):Mp:=⟨fun b=>if b=n then some x else ρ b,fun b=>if b=n then y else ρ.g b⟩
theorem Mp.ext_le {ρ:Mp} {n:Nat} {x y:Nat × Nat} (h:ρ n=none):ρ.le (ρ.ext n x y):=by
 constructor
 ·intro b z hb
  show (if b=n then some x else ρ b)=_
  split
  ·rename_i e; subst e; rw [h] at hb; cases hb
  ·exact hb
 ·intro b z hb
  show (if b=n then y else ρ.g b)=_
  split
  ·rename_i e; subst e; rw [h] at hb; cases hb
  ·rfl
theorem Mp.ext_same (ρ:Mp) (n:Nat) (x y:Nat × Nat):ρ.ext n x y n=some x:=by simp [Mp.ext]
theorem Mp.ext_sameG (ρ:Mp) (n:Nat) (x y:Nat × Nat):(ρ.ext n x y).g n=y:=by simp [Mp.ext]
theorem Mp.ext_other {ρ:Mp} {n b:Nat} {x y:Nat × Nat} (h:b≠n):ρ.ext n x y b=ρ b:=by simp [Mp.ext,h]
theorem Mp.ext_otherG {ρ:Mp} {n b:Nat} {x y:Nat × Nat} (h:b≠n):(ρ.ext n x y).g b=ρ.g b:=by simp [Mp.ext,h]
theorem Inv.fresh {ρ:Mp} {h:H} {n:Nat} {w:World} (hi:Inv ρ h n w):ρ n=none:=by
 rcases hx:ρ n with _ | x
 ·rfl
 ·have:=hi.dom n (by rw [hx]; simp)
  omega
theorem Inv.none_of {ρ:Mp} {h:H} {n:Nat} {w:World} (hi:Inv ρ h n w):getO h n=none:=by
 rcases hx:getO h n with _ | o
 ·rfl
 ·obtain ⟨r,b,h1,_⟩:=hi.obj n o hx
  rw [hi.fresh] at h1; cases h1
theorem Inv.heap {ρ:Mp} {h:H} {n:Nat} {w v:World} (hi:Inv ρ h n w) (e:v.heap=w.heap):Inv ρ h n v:=
 ⟨fun b o hb=>by rw [e]; exact hi.obj b o hb,hi.inj,hi.dom,fun b r x hb=>by rw [e]; exact hi.rng b r x hb,hi.lim,hi.st⟩
theorem Goes.heap {ρ:Mp} {h:H} {n:Nat} {w v:World} (hi:Inv ρ h n w) (e:v.heap=w.heap) (hio:v.os=w.os∧v.output=w.output:=by exact ⟨rfl,rfl⟩):Goes ρ h n w ρ h n v:=
 ⟨hi.heap e,Mp.le_refl _,Nat.le_refl _,by rw [e]; exact Nat.le_refl _,fun r _ _=>by rw [e],fun _ _ h=>h,hio⟩
theorem Inv.push {ρ:Mp} {h:H} {n:Nat} {w v:World} (hi:Inv ρ h n w) (hn:n < top) {ao:AO} {o:Obj} {y:Nat × Nat} (e:v.heap=w.heap.push o) (hr:relO ρ y ao (some o) 0) (hio:v.os=w.os∧v.output=w.output:=by exact ⟨rfl,rfl⟩):
  Goes ρ h n w (ρ.ext n (w.heap.size,0) y) (setO h n ao) (n + 1) v:=by
 have hle:ρ.le (ρ.ext n (w.heap.size,0) y):=Mp.ext_le hi.fresh
 have hold:∀ r,r < w.heap.size→v.heap[r]?=w.heap[r]?:=fun r hr=>by rw [e,Array.getElem?_push_lt hr]; simp [hr]
 have hnew:v.heap[w.heap.size]?=some o:=by rw [e]; simp
 have hsz:v.heap.size=w.heap.size + 1:=by rw [e]; simp
 refine ⟨⟨fun b p hb=>?_,fun b c p q r x y hb hc h1 h2=>?_,fun b hb=>?_,fun b r x hb=>?_,by unfold top at hn; omega,fun i hk=>hle.at_ _ _ (hi.st i hk)⟩,hle,by omega,by omega,fun r hr _=>hold r hr,fun r hr hl=>?_,hio⟩
 ·rw [za8 hn] at hb
  split at hb
  ·rename_i e1; subst e1
   cases hb
   exact ⟨_,_,Mp.ext_same _ _ _ _,by rw [hnew,Mp.ext_sameG]; exact zb1 hle hr⟩
  ·rename_i hbn
   obtain ⟨r,x,h1,h2⟩:=hi.obj b p hb
   exact ⟨r,x,hle.at_ _ _ h1,by rw [hold r (hi.rng _ _ _ h1),Mp.ext_otherG hbn]; exact zb1 hle h2⟩
 ·rw [za8 hn] at hb hc
  by_cases hbn:b=n<;>by_cases hcn:c=n
  ·rw [hbn,hcn]
  ·subst hbn; rw [Mp.ext_same] at h1; rw [Mp.ext_other hcn] at h2
   have:=hi.rng _ _ _ h2
   cases h1; omega
  ·subst hcn; rw [Mp.ext_other hbn] at h1; rw [Mp.ext_same] at h2
   have:=hi.rng _ _ _ h1
   cases h2; omega
  ·rw [Mp.ext_other hbn] at h1; rw [if_neg hbn] at hb; rw [Mp.ext_other hcn] at h2; rw [if_neg hcn] at hc
   exact hi.inj _ _ _ _ _ _ _ hb hc h1 h2
 ·by_cases hbn:b=n
  ·omega
  ·rw [Mp.ext_other hbn] at hb
   have:=hi.dom b hb; omega
 ·by_cases hbn:b=n
  ·subst hbn; rw [Mp.ext_same] at hb; cases hb; omega
  ·rw [Mp.ext_other hbn] at hb
   have:=hi.rng _ _ _ hb; omega
 ·obtain ⟨b,p,x,hk,h1,h2⟩:=hl
  rw [za8 hn] at h1
  by_cases hbn:b=n
  ·subst hbn; rw [Mp.ext_same] at h2; cases h2; omega
  ·rw [if_neg hbn] at h1; rw [Mp.ext_other hbn] at h2
   exact ⟨b,p,x,hk,h1,h2⟩
theorem Inv.set {ρ:Mp} {h:H} {n:Nat} {w v:World} (hi:Inv ρ h n w) {b r base:Nat} {o ao:AO} (hb:getO h b=some o) (hρ:ρ b=some (r,base)) (hkb:KG≤b)
  (hr:relO ρ (ρ.g b) ao v.heap[r]? base) (hq:∀ q,q≠r→v.heap[q]?=w.heap[q]?) (hs:v.heap.size=w.heap.size) (hio:v.os=w.os∧v.output=w.output:=by exact ⟨rfl,rfl⟩):
  Goes ρ h n w ρ (setO h b ao) n v:=by
 have hbn:b < top:=by have:=hi.dom b (by rw [hρ]; simp); have:=hi.lim; unfold top; omega
 have hlive:live ρ h r:=⟨b,o,base,hkb,hb,hρ⟩
 refine ⟨⟨fun c p hc=>?_,fun c d p q s x y hc hd h1 h2=>?_,hi.dom,fun c s x hc=>by rw [hs]; exact hi.rng c s x hc,hi.lim,hi.st⟩,Mp.le_refl _,Nat.le_refl _,by omega,fun q _ hl=>hq q (fun e=>hl (e ▸ hlive)),fun q _ hl=>?_,hio⟩
 ·rw [za8 hbn] at hc
  split at hc
  ·rename_i e; subst e; cases hc
   exact ⟨r,base,hρ,hr⟩
  ·rename_i hcb
   obtain ⟨s,x,h1,h2⟩:=hi.obj c p hc
   refine ⟨s,x,h1,?_⟩
   rw [hq s ?_]
   ·exact h2
   ·rintro rfl
    exact hcb (hi.inj c b _ _ _ _ _ hc hb h1 hρ)
 ·rw [za8 hbn] at hc hd
  by_cases e1:c=b<;>by_cases e2:d=b
  ·rw [e1,e2]
  ·rw [if_neg e2] at hd; subst e1
   exact hi.inj _ _ _ _ _ _ _ hb hd h1 h2
  ·rw [if_neg e1] at hc; subst e2
   exact hi.inj _ _ _ _ _ _ _ hc hb h1 h2
  ·rw [if_neg e1] at hc; rw [if_neg e2] at hd
   exact hi.inj _ _ _ _ _ _ _ hc hd h1 h2
 ·obtain ⟨c,p,x,hk,h1,h2⟩:=hl
  rw [za8 hbn] at h1
  by_cases e1:c=b
  ·subst e1; exact ⟨c,o,x,hk,hb,h2⟩
  ·rw [if_neg e1] at h1; exact ⟨c,p,x,hk,h1,h2⟩
theorem Inv.kill {ρ:Mp} {h:H} {n:Nat} {w:World} (hi:Inv ρ h n w) {b:Nat} (hb:b < top):Goes ρ h n w ρ (zey h b) n w:=by
 have hsub:∀ c p,getO (zey h b) c=some p→getO h c=some p:=fun c p hc=>by
  rw [zdu hb] at hc
  split at hc
  ·cases hc
  ·exact hc
 exact ⟨⟨fun c p hc=>hi.obj c p (hsub c p hc),fun c d p q s x y hc hd=>hi.inj c d p q s x y (hsub _ _ hc) (hsub _ _ hd),hi.dom,hi.rng,hi.lim,hi.st⟩,Mp.le_refl _,Nat.le_refl _,Nat.le_refl _,fun _ _ _=>rfl,
  fun r _ hl=>let ⟨c,p,x,hk,h1,h2⟩:=hl; ⟨c,p,x,hk,hsub c p h1,h2⟩,rfl,rfl⟩
theorem Inv.regrow {ρ:Mp} {h:H} {n:Nat} {w v:World} (hi:Inv ρ h n w) (hn:n < top) {b r base base':Nat} {o ao:AO} (hb:getO h b=some o) (hρ:ρ b=some (r,base)) (hkb:KG≤b)
  {y:Nat × Nat} (hr:relO ρ y ao v.heap[r]? base') (hq:∀ q,q≠r→v.heap[q]?=w.heap[q]?) (hs:v.heap.size=w.heap.size) (hio:v.os=w.os∧v.output=w.output:=by exact ⟨rfl,rfl⟩):
  Goes ρ h n w (ρ.ext n (r,base') y) (setO (zey h b) n ao) (n + 1) v:=by
 have hbt:b < n:=hi.dom b (by rw [hρ]; simp)
 have hle:ρ.le (ρ.ext n (r,base') y):=Mp.ext_le hi.fresh
 have hlive:live ρ h r:=⟨b,o,base,hkb,hb,hρ⟩
 have hk:∀ c p,c≠n→getO (setO (zey h b) n ao) c=some p→getO h c=some p∧c≠b:=fun c p hc hp=>by
  rw [za8 hn,if_neg hc,zdu (by omega)] at hp
  split at hp
  ·cases hp
  ·rename_i hcb; exact ⟨hp,hcb⟩
 have hne:∀ c,c≠n→∀ x,ρ.ext n (r,base') y c=some x→ρ c=some x:=fun c hc x hx=>by rwa [Mp.ext_other hc] at hx
 refine ⟨⟨fun c p hc=>?_,fun c d p q s x y hc hd h1 h2=>?_,fun c hc=>?_,fun c s x hc=>?_,by unfold top at hn; omega,fun i hk=>hle.at_ _ _ (hi.st i hk)⟩,hle,by omega,by omega,fun q _ hl=>hq q (fun e=>hl (e ▸ hlive)),fun q hq' hl=>?_,hio⟩
 ·by_cases hcn:c=n
  ·subst hcn
   rw [za8 hn,if_pos rfl] at hc
   cases hc
   exact ⟨r,base',Mp.ext_same _ _ _ _,by rw [Mp.ext_sameG]; exact zb1 hle hr⟩
  ·obtain ⟨g1,g2⟩:=hk c p hcn hc
   obtain ⟨s,x,h1,h2⟩:=hi.obj c p g1
   refine ⟨s,x,hle.at_ _ _ h1,?_⟩
   rw [hq s ?_,Mp.ext_otherG hcn]
   ·exact zb1 hle h2
   ·rintro rfl
    exact g2 (hi.inj c b _ _ _ _ _ g1 hb h1 hρ)
 ·by_cases e1:c=n<;>by_cases e2:d=n
  ·rw [e1,e2]
  ·subst e1
   rw [Mp.ext_same] at h1; cases h1
   obtain ⟨g1,g2⟩:=hk d q e2 hd
   exact absurd (hi.inj d b _ _ _ _ _ g1 hb (hne d e2 _ h2) hρ) g2
  ·subst e2
   rw [Mp.ext_same] at h2; cases h2
   obtain ⟨g1,g2⟩:=hk c p e1 hc
   exact absurd (hi.inj c b _ _ _ _ _ g1 hb (hne c e1 _ h1) hρ) g2
  ·exact hi.inj _ _ _ _ _ _ _ (hk c p e1 hc).1 (hk d q e2 hd).1 (hne c e1 _ h1) (hne d e2 _ h2)
 ·by_cases e1:c=n
  ·omega
  ·have:=hi.dom c (by intro e; exact hc (by rw [Mp.ext_other e1]; exact e)); omega
 ·by_cases e1:c=n
  ·subst e1; rw [Mp.ext_same] at hc; cases hc; rw [hs]; exact hi.rng _ _ _ hρ
  ·rw [hs]; exact hi.rng _ _ _ (hne c e1 _ hc)
 ·obtain ⟨c,p,x,hkc,h1,h2⟩:=hl
  by_cases e1:c=n
  ·subst e1; rw [Mp.ext_same] at h2; cases h2; exact hlive
  ·exact ⟨c,p,x,hkc,(hk c p e1 h1).1,hne c e1 _ h2⟩
end
end Go.VE
namespace Go.VE
noncomputable section
open Go
def Val (P:Program) (s:Sem Value) (ρ:Mp) (h:H) (n:Nat) (w:World) (k:K) (rr:RR):Prop:=
 ∃ v h' n' σ w' rv,k v h' n'=rr∧s.run P w=.ok rv w'∧Goes ρ h n w σ h' n' w'∧rel σ v rv
section
variable {P:Program} {ρ:Mp} {h:H} {n:Nat} {w:World} {k:K} {rr:RR}
def Val0 (P:Program) (s:Sem Value) (ρ:Mp) (h:H) (n:Nat) (w:World) (k:K) (rr:RR):Prop:=
 ∃ v rv,k v h n=rr∧s.run P w=.ok rv w∧rel ρ v rv
theorem Val0.of {s:Sem Value} {v:AV} {rv:Value} (hk:k v h n=rr) (hs:s.run P w=.ok rv w) (hr:rel ρ v rv):Val0 P s ρ h n w k rr:=⟨v,rv,hk,hs,hr⟩
theorem Val0.val {s:Sem Value} (h0:Val0 P s ρ h n w k rr) (hi:Inv ρ h n w):Val P s ρ h n w k rr:=let ⟨v,rv,h1,h2,h3⟩:=h0; ⟨v,h,n,ρ,w,rv,h1,h2,Goes.refl hi,h3⟩
theorem Val.same {s:Sem Value} {v:AV} {rv:Value} (hi:Inv ρ h n w) (hk:k v h n=rr) (hs:s.run P w=.ok rv w) (hr:rel ρ v rv):Val P s ρ h n w k rr:=
 ⟨v,h,n,ρ,w,rv,hk,hs,Goes.refl hi,hr⟩
theorem zek {kd:IntKind} {m:Int} (hm:inK kd m):rel ρ (.int (zad kd) (encI kd m)) (.int kd m):=by
 simp only [rel]; exact ⟨kd,m,rfl,rfl,rfl,hm⟩
theorem zec {kd:IntKind} {u:Nat} {z:Int} (hu:u=encI kd z):rel ρ (.int (zad kd) u) (.int kd (kd.wrap z)):=by
 have:=zhq kd z
 rw [hu,← this.1]; exact zek this.2
theorem za6 {kd:IntKind} {u:Nat} {v:Value} (hr:rel ρ (.int (zad kd) u) v):∃ m,v=.int kd m∧u=encI kd m∧inK kd m:=by
 simp only [rel] at hr
 obtain ⟨j,m,rfl,h1,h2,h3⟩:=hr
 have:=zeo h1; subst this
 exact ⟨m,rfl,h2,h3⟩
theorem zdc {i u:Nat} {v:Value} (hr:rel ρ (.int i u) v):∃ kd m,i=zad kd∧v=.int kd m∧u=encI kd m∧inK kd m:=by
 simp only [rel] at hr
 obtain ⟨j,m,rfl,h1,h2,h3⟩:=hr
 exact ⟨j,m,h1.symm,rfl,h2,h3⟩
theorem zbr (b:Bool):rel ρ (.bool b) (.bool b):=by simp only [rel]
theorem zgz {b:Bool} {v:Value} (hr:rel ρ (.bool b) v):v=.bool b:=by simpa only [rel] using hr
section arith
variable {kd:IntKind} {x y:AV} {rx ry:Value} {t:TypeId} (hi:Inv ρ h n w) (hx:rel ρ x rx) (hy:rel ρ y ry) (hne:rr≠.fail)
include hi hx hy hne
theorem zz4 (e:int2 (zad kd) x y (fun a b=>frc ((a + b) % moN (zad kd)) fun c=>k (.int (zad kd) c) h n)=rr):Val P (binOp .add t rx ry) ρ h n w k rr:=by
 obtain ⟨a,b,rfl,rfl,e'⟩:=zce e hne; replace e:=e'
 rw [zam] at e
 obtain ⟨p,rfl,rfl,hp⟩:=za6 hx
 obtain ⟨q,rfl,rfl,hq⟩:=za6 hy
 exact .same hi e (by simp [binOp,Op.intArith]) (zec (zyi _ _ _).symm)
theorem z0l (e:int2 (zad kd) x y (fun a b=>frc ((a + (moN (zad kd) - b)) % moN (zad kd)) fun c=>k (.int (zad kd) c) h n)=rr):Val P (binOp .sub t rx ry) ρ h n w k rr:=by
 obtain ⟨a,b,rfl,rfl,e'⟩:=zce e hne; replace e:=e'
 rw [zam] at e
 obtain ⟨p,rfl,rfl,hp⟩:=za6 hx
 obtain ⟨q,rfl,rfl,hq⟩:=za6 hy
 exact .same hi e (by simp [binOp,Op.intArith]) (zec (zym _ _ _).symm)
theorem z0c (e:int2 (zad kd) x y (fun a b=>frc ((a * b) % moN (zad kd)) fun c=>k (.int (zad kd) c) h n)=rr):Val P (binOp .mul t rx ry) ρ h n w k rr:=by
 obtain ⟨a,b,rfl,rfl,e'⟩:=zce e hne; replace e:=e'
 rw [zam] at e
 obtain ⟨p,rfl,rfl,hp⟩:=za6 hx
 obtain ⟨q,rfl,rfl,hq⟩:=za6 hy
 exact .same hi e (by simp [binOp,Op.intArith]) (zec (zyj _ _ _).symm)
theorem zup {a b:Nat} (h1:a < hiN (zad kd)) (h2:b < hiN (zad kd)) (hx:rel ρ (.int (zad kd) a) rx) (hy:rel ρ (.int (zad kd) b) ry):rx=.int kd a∧ry=.int kd b:=by
 obtain ⟨p,rfl,rfl,hp⟩:=za6 hx
 obtain ⟨q,rfl,rfl,hq⟩:=za6 hy
 have e1:=zcu hp
 have e2:=zcu hq
 exact ⟨by rw [e1.2 (e1.1.1 h1)],by rw [e2.2 (e2.1.1 h2)]⟩
theorem z0h (e:int2 (zad kd) x y (fun a b=>br (Nat.blt a (hiN (zad kd))) (br (Nat.blt b (hiN (zad kd))) (br (Nat.beq b 0) .fail (frc (a / b) fun c=>k (.int (zad kd) c) h n)) .fail) .fail)=rr):Val P (binOp .quo t rx ry) ρ h n w k rr:=by
 obtain ⟨a,b,rfl,rfl,e'⟩:=zce e hne; replace e:=e'
 obtain ⟨h1,e⟩:=zab e hne
 obtain ⟨h2,e⟩:=zab e hne
 rw [Nat.blt_eq] at h1 h2
 rw [zay,zam] at e
 by_cases hb:Nat.beq b 0=true
 ·rw [if_pos hb] at e; exact absurd e.symm hne
 rw [if_neg hb] at e
 rw [Nat.beq_eq] at hb
 obtain ⟨rfl,rfl⟩:=zup hi hx hy hne h1 h2 hx hy
 have hlt:a / b < hiN (zad kd):=Nat.lt_of_le_of_lt (Nat.div_le_self _ _) h1
 refine .same hi e (rv:=.int kd (kd.wrap ((a:Int).tdiv b))) ?_ (zec ?_)
 ·simp [binOp,Op.intDiv,hb]
 ·rw [← Int.ofNat_tdiv]
  exact (zgj (Nat.lt_of_lt_of_le hlt (zlt kd))).symm
theorem z0i (e:int2 (zad kd) x y (fun a b=>br (Nat.blt a (hiN (zad kd))) (br (Nat.blt b (hiN (zad kd))) (br (Nat.beq b 0) .fail (frc (a % b) fun c=>k (.int (zad kd) c) h n)) .fail) .fail)=rr):Val P (binOp .rem t rx ry) ρ h n w k rr:=by
 obtain ⟨a,b,rfl,rfl,e'⟩:=zce e hne; replace e:=e'
 obtain ⟨h1,e⟩:=zab e hne
 obtain ⟨h2,e⟩:=zab e hne
 rw [Nat.blt_eq] at h1 h2
 rw [zay,zam] at e
 by_cases hb:Nat.beq b 0=true
 ·rw [if_pos hb] at e; exact absurd e.symm hne
 rw [if_neg hb] at e
 rw [Nat.beq_eq] at hb
 obtain ⟨rfl,rfl⟩:=zup hi hx hy hne h1 h2 hx hy
 have hlt:a % b < hiN (zad kd):=Nat.lt_of_le_of_lt (Nat.mod_le _ _) h1
 have hin:inK kd ((a % b:Nat):Int):=zkw hlt
 refine .same hi e (rv:=.int kd ((a % b:Nat):Int)) ?_ ?_
 ·simp [binOp,Op.intDiv,hb]
  rfl
 ·have:=zek (ρ:=ρ) hin
  rwa [zgj (Nat.lt_of_lt_of_le hlt (zlt kd))] at this
theorem zja (op:BinOp) (f:Nat→Nat→Nat) (g:BitVec kd.bits→BitVec kd.bits→BitVec kd.bits)
  (hop:∀ p q,(binOp op t (.int kd p) (.int kd q)).run P w=.ok (.int kd (kd.wrap (g (BitVec.ofInt kd.bits p) (BitVec.ofInt kd.bits q)).toNat)) w)
  (hg:∀ p q,(g (BitVec.ofInt kd.bits p) (BitVec.ofInt kd.bits q)).toNat=f (encI kd p) (encI kd q))
  (e:int2 (zad kd) x y (fun a b=>frc (f a b) fun c=>k (.int (zad kd) c) h n)=rr):Val P (binOp op t rx ry) ρ h n w k rr:=by
 obtain ⟨a,b,rfl,rfl,e'⟩:=zce e hne; replace e:=e'
 rw [zam] at e
 obtain ⟨p,rfl,rfl,hp⟩:=za6 hx
 obtain ⟨q,rfl,rfl,hq⟩:=za6 hy
 refine .same hi e (hop p q) (zec ?_)
 rw [← hg p q]
 have:=zvf kd (g (BitVec.ofInt kd.bits p) (BitVec.ofInt kd.bits q))
 rw [(zhq _ _).1] at this
 exact this.symm
theorem zus (e:int2 (zad kd) x y (fun a b=>frc (Nat.land a b) fun c=>k (.int (zad kd) c) h n)=rr):Val P (binOp .and t rx ry) ρ h n w k rr:=
 zja hi hx hy hne .and Nat.land (· &&& ·) (fun p q=>by simp [binOp,Op.intBits]) (fun p q=>by rw [BitVec.toNat_and,zb8,zb8]; rfl) e
theorem val_or (e:int2 (zad kd) x y (fun a b=>frc (Nat.lor a b) fun c=>k (.int (zad kd) c) h n)=rr):Val P (binOp .or t rx ry) ρ h n w k rr:=
 zja hi hx hy hne .or Nat.lor (· ||| ·) (fun p q=>by simp [binOp,Op.intBits]) (fun p q=>by rw [BitVec.toNat_or,zb8,zb8]; rfl) e
theorem z0p (e:int2 (zad kd) x y (fun a b=>frc (Nat.xor a b) fun c=>k (.int (zad kd) c) h n)=rr):Val P (binOp .xor t rx ry) ρ h n w k rr:=
 zja hi hx hy hne .xor Nat.xor (· ^^^ ·) (fun p q=>by simp [binOp,Op.intBits]) (fun p q=>by rw [BitVec.toNat_xor,zb8,zb8]; rfl) e
theorem zz8 (e:int2 (zad kd) x y (fun a b=>frc (Nat.land a (moN (zad kd) - 1 - b)) fun c=>k (.int (zad kd) c) h n)=rr):Val P (binOp .andNot t rx ry) ρ h n w k rr:=
 zja hi hx hy hne .andNot (fun a b=>Nat.land a (moN (zad kd) - 1 - b)) (fun a b=>a &&& ~~~b) (fun p q=>by simp [binOp,Op.intBits])
  (fun p q=>by rw [BitVec.toNat_and,zb8,BitVec.toNat_not,zb8,zn6]; rfl) e
theorem val_lt (op:BinOp) (hop:∀ p q,(binOp op t (.int kd p) (.int kd q)).run P w=.ok (.bool (decide (p < q))) w)
  (e:int2 (zad kd) x y (fun a b=>k (.bool (Nat.blt ((a + upN' (zad kd)) % moN (zad kd)) ((b + upN' (zad kd)) % moN (zad kd)))) h n)=rr):Val P (binOp op t rx ry) ρ h n w k rr:=by
 obtain ⟨a,b,rfl,rfl,e'⟩:=zce e hne; replace e:=e'
 obtain ⟨p,rfl,rfl,hp⟩:=za6 hx
 obtain ⟨q,rfl,rfl,hq⟩:=za6 hy
 refine .same hi e (hop p q) ?_
 have:Nat.blt ((encI kd p + upN' (zad kd)) % moN (zad kd)) ((encI kd q + upN' (zad kd)) % moN (zad kd))=decide (p < q):=by
  rw [Bool.eq_iff_iff,Nat.blt_eq,decide_eq_true_eq]; exact (zlr hp hq).symm
 rw [this]; exact zbr _
theorem val_le (op:BinOp) (hop:∀ p q,(binOp op t (.int kd p) (.int kd q)).run P w=.ok (.bool (decide (p≤q))) w)
  (e:int2 (zad kd) x y (fun a b=>k (.bool (Nat.ble ((a + upN' (zad kd)) % moN (zad kd)) ((b + upN' (zad kd)) % moN (zad kd)))) h n)=rr):Val P (binOp op t rx ry) ρ h n w k rr:=by
 obtain ⟨a,b,rfl,rfl,e'⟩:=zce e hne; replace e:=e'
 obtain ⟨p,rfl,rfl,hp⟩:=za6 hx
 obtain ⟨q,rfl,rfl,hq⟩:=za6 hy
 refine .same hi e (hop p q) ?_
 have:Nat.ble ((encI kd p + upN' (zad kd)) % moN (zad kd)) ((encI kd q + upN' (zad kd)) % moN (zad kd))=decide (p≤q):=by
  rw [Bool.eq_iff_iff,Nat.ble_eq,decide_eq_true_eq]
  have:=zlr hq hp
  omega
 rw [this]; exact zbr _
theorem zu2 (e:int2 (zad kd) x y (fun a b=>k (.bool (Nat.blt ((a + upN' (zad kd)) % moN (zad kd)) ((b + upN' (zad kd)) % moN (zad kd)))) h n)=rr):Val P (binOp .lss t rx ry) ρ h n w k rr:=
 val_lt hi hx hy hne .lss (fun p q=>by simp [binOp,Op.intCmp]) e
theorem zuz (e:int2 (zad kd) x y (fun a b=>k (.bool (Nat.ble ((a + upN' (zad kd)) % moN (zad kd)) ((b + upN' (zad kd)) % moN (zad kd)))) h n)=rr):Val P (binOp .leq t rx ry) ρ h n w k rr:=
 val_le hi hx hy hne .leq (fun p q=>by simp [binOp,Op.intCmp]) e
end arith
end
end
end Go.VE
