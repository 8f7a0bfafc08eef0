/- The evaluator, part 3: definitions and their laws, over any program. No condition. -/
import Derived.MapKept
import Derived.Test.YtjpelmgihpmohaaGreatDoorVE2
set_option linter.all false
namespace Go.VE
noncomputable section
structure Mp where
 f:Nat→Option (Nat × Nat)
 g:Nat→Nat × Nat
instance:CoeFun Mp (fun _=>Nat→Option (Nat × Nat)):=⟨Mp.f⟩
structure Mp.le (ρ σ:Mp):Prop where
 at_:∀ b x,ρ b=some x→σ b=some x
 gs:∀ b x,ρ b=some x→σ.g b=ρ.g b
theorem Mp.le_refl (ρ:Mp):ρ.le ρ:=⟨fun _ _ h=>h,fun _ _ _=>rfl⟩
theorem Mp.le_trans {ρ σ τ:Mp} (h:ρ.le σ) (h':σ.le τ):ρ.le τ:=⟨fun b x hx=>h'.at_ b x (h.at_ b x hx),fun b x hx=>(h'.gs b x (h.at_ b x hx)).trans (h.gs b x hx)⟩
mutual
def rel (ρ:Mp):AV→Value→Prop
 | .undef,v=>v=.tuple #[]
 | .int k u,v=>∃ kd m,v=.int kd m∧zad kd=k∧u=encI kd m∧kd.min≤m∧m≤kd.max
 | .bool b,v=>v=.bool b
 | .ptr b off,v=>∃ r o,ρ b=some (r,o)∧v=.pointer (some ⟨r,o + off,none⟩)
 | .sl b off len cap ex,v=>∃ r o f c,ρ b=some (r,o)∧v=.slice (some ⟨r,f,none⟩) len c∧len≤cap∧cap≤c∧(ex=true→c=cap)∧(f=o + off∨(ex=false∧cap=0∧c=0))∧(ex=false→c=cap∨f + c * (ρ.g b).1=(ρ.g b).2)
 | .str n x,v=>∃ s:ByteArray,v=.string s∧zb6 s.data.toList n x
 | .iface t a,v=>∃ w,v=.iface t w∧rel ρ a w
 | .nilp,v=>v=.pointer none
 | .nils,v=>v=.slice none 0 0
 | .nili,v=>v=.nilIface
 | .nilm,v=>v=.map none
 | .nilf,v=>v=.nilFunc
 | .map b,v=>∃ r,ρ b=some (r,0)∧v=.map (some r)
 | .func f caps,v=>∃ cs,v=.func (.func f) #[] cs∧relL ρ caps cs.toList
 | .agg l,v=>∃ cs,v=.agg cs∧relL ρ l cs.toList∧okCs l=true
 | .tup l,v=>∃ cs,v=.tuple cs∧relL ρ l cs.toList
 | .nl,_=>False
 | .cons _ _,_=>False
 | .yld b,v=>∃ r,ρ b=some (r,0)∧v=.func (.yield r) #[] #[]
 | .ukn k m a,v=>∃ kd z,v=.int kd z∧zad kd=k∧uk m (encI kd z)=a∧kd.min≤z∧z≤kd.max
def relL (ρ:Mp):AV→List Value→Prop
 | .nl,vs=>vs=[]
 | .cons a l,vs=>∃ v r,vs=v :: r∧rel ρ a v∧relL ρ l r
 | _,_=>False
end
def relS (ρ:Mp):List AV→List Value→Prop
 | [],vs=>vs=[]
 | a :: l,vs=>∃ v r,vs=v :: r∧rel ρ a v∧relS ρ l r
mutual
theorem zba {ρ σ:Mp} (h:ρ.le σ):∀ (a:AV) (v:Value),rel ρ a v→rel σ a v
 | .undef,_=>fun hr=>by simpa only [rel] using hr
 | .int _ _,_=>fun hr=>by simpa only [rel] using hr
 | .bool _,_=>fun hr=>by simpa only [rel] using hr
 | .ptr _ _,_=>fun hr=>by
  simp only [rel] at hr ⊢
  obtain ⟨r,o,h1,h2⟩:=hr
  exact ⟨r,o,h.at_ _ _ h1,h2⟩
 | .sl _ _ _ _ _,_=>fun hr=>by
  simp only [rel] at hr ⊢
  obtain ⟨r,o,f,c,h1,h2,h3,h4,h5,h6,h7⟩:=hr
  exact ⟨r,o,f,c,h.at_ _ _ h1,h2,h3,h4,h5,h6,by rw [h.gs _ _ h1]; exact h7⟩
 | .str _ _,_=>fun hr=>by simpa only [rel] using hr
 | .iface _ a,_=>fun hr=>by
  simp only [rel] at hr ⊢
  obtain ⟨w,h1,h2⟩:=hr
  exact ⟨w,h1,zba h a w h2⟩
 | .nilp,_=>fun hr=>by simpa only [rel] using hr
 | .nils,_=>fun hr=>by simpa only [rel] using hr
 | .nili,_=>fun hr=>by simpa only [rel] using hr
 | .nilm,_=>fun hr=>by simpa only [rel] using hr
 | .nilf,_=>fun hr=>by simpa only [rel] using hr
 | .map _,_=>fun hr=>by
  simp only [rel] at hr ⊢
  obtain ⟨r,h1,h2⟩:=hr
  exact ⟨r,h.at_ _ _ h1,h2⟩
 | .func _ caps,_=>fun hr=>by
  simp only [rel] at hr ⊢
  obtain ⟨cs,h1,h2⟩:=hr
  exact ⟨cs,h1,zfq h caps _ h2⟩
 | .agg l,_=>fun hr=>by
  simp only [rel] at hr ⊢
  obtain ⟨cs,h1,h2,h3⟩:=hr
  exact ⟨cs,h1,zfq h l _ h2,h3⟩
 | .tup l,_=>fun hr=>by
  simp only [rel] at hr ⊢
  obtain ⟨cs,h1,h2⟩:=hr
  exact ⟨cs,h1,zfq h l _ h2⟩
 | .nl,_=>fun hr=>by simp only [rel] at hr
 | .cons _ _,_=>fun hr=>by simp only [rel] at hr
 | .yld _,_=>fun hr=>by
  simp only [rel] at hr ⊢
  obtain ⟨r,h1,h2⟩:=hr
  exact ⟨r,h.at_ _ _ h1,h2⟩
 | .ukn _ _ _,_=>fun hr=>by simpa only [rel] using hr
theorem zfq {ρ σ:Mp} (h:ρ.le σ):∀ (a:AV) (vs:List Value),relL ρ a vs→relL σ a vs
 | .nl,_=>fun hr=>by simpa only [relL] using hr
 | .cons a l,_=>fun hr=>by
  simp only [relL] at hr ⊢
  obtain ⟨v,r,h1,h2,h3⟩:=hr
  exact ⟨v,r,h1,zba h a v h2,zfq h l r h3⟩
 | .undef,_=>fun hr=>by simp only [relL] at hr
 | .int _ _,_=>fun hr=>by simp only [relL] at hr
 | .bool _,_=>fun hr=>by simp only [relL] at hr
 | .ptr _ _,_=>fun hr=>by simp only [relL] at hr
 | .sl _ _ _ _ _,_=>fun hr=>by simp only [relL] at hr
 | .str _ _,_=>fun hr=>by simp only [relL] at hr
 | .iface _ _,_=>fun hr=>by simp only [relL] at hr
 | .nilp,_=>fun hr=>by simp only [relL] at hr
 | .nils,_=>fun hr=>by simp only [relL] at hr
 | .nili,_=>fun hr=>by simp only [relL] at hr
 | .nilm,_=>fun hr=>by simp only [relL] at hr
 | .nilf,_=>fun hr=>by simp only [relL] at hr
 | .map _,_=>fun hr=>by simp only [relL] at hr
 | .func _ _,_=>fun hr=>by simp only [relL] at hr
 | .agg _,_=>fun hr=>by simp only [relL] at hr
 | .tup _,_=>fun hr=>by simp only [relL] at hr
 | .yld _,_=>fun hr=>by simp only [relL] at hr
 | .ukn _ _ _,_=>fun hr=>by simp only [relL] at hr
end
def zn9:Value→Prop
 | .agg _=>False
 | .tuple _=>False
 | _=>True
def fzOk (fz:Nat × Nat) (m:Nat):Prop:=fz.1=fz.2∨m≤fz.1
theorem fzOk.at_ {fz:Nat × Nat} {m j:Nat} (h:fzOk fz m) (hj:j < m):¬ (fz.1≤j∧j < fz.2):=by rcases h with h | h<;>omega
def relO (ρ:Mp) (g:Nat × Nat) (o:AO) (x:Option Obj) (base:Nat):Prop:=
 match o,x with
 | .cells n es t,some (.cells c _ fz)=>((es≠0→g=(es,c.size))∧fzOk fz c.size)∧n≤140737488355328∧∀ i,i < n→∃ v,c[base + i]?=some v∧rel ρ (zag t i) v∧okC (zag t i)=true∧¬ (fz.1≤base + i∧base + i < fz.2)
 | .bytes n x,some (.cells c _ fz)=>(g=(1,c.size)∧fzOk fz c.size)∧n≤140737488355328∧∃ l,zb6 l n x∧∀ i (hi:i < l.length),c[base + i]?=some (.int .u8 (l[i]'hi).toNat)∧¬ (fz.1≤base + i∧base + i < fz.2)
 | .map l,some (.map es c)=>base=0∧MapKept.Stamped es c∧es.toList.length=l.length∧∀ i (hi:i < l.length) (hj:i < es.toList.length),rel ρ (l[i]'hi).1 (es.toList[i]'hj).key∧rel ρ (l[i]'hi).2 (es.toList[i]'hj).val
 | .var ty n t,some (.cells c e fz)=>(e=ty∧base=0∧c.size=n)∧fzOk fz c.size∧n≤140737488355328∧∀ i,i < n→∃ v,c[base + i]?=some v∧rel ρ (zag t i) v∧okC (zag t i)=true∧¬ (fz.1≤base + i∧base + i < fz.2)
 | .rowb ty m n x,some (.cells c e fz)=>(e=ty∧base + m≤c.size)∧(g=(1,c.size)∧fzOk fz c.size)∧n≤140737488355328∧∃ l,zb6 l n x∧∀ i (hi:i < l.length),c[base + i]?=some (.int .u8 (l[i]'hi).toNat)∧¬ (fz.1≤base + i∧base + i < fz.2)
 | _,_=>False
theorem zb1 {ρ σ:Mp} (h:ρ.le σ) {g:Nat × Nat} {o:AO} {x:Option Obj} {base:Nat} (hr:relO ρ g o x base):relO σ g o x base:=by
 unfold relO at hr ⊢
 split at hr
 ·obtain ⟨hs,h0,hr⟩:=hr
  refine ⟨hs,h0,fun i hi=>?_⟩
  obtain ⟨v,h1,h2,h3⟩:=hr i hi
  exact ⟨v,h1,zba h _ _ h2,h3⟩
 ·exact hr
 ·obtain ⟨h0,hst,h1,h2⟩:=hr
  exact ⟨h0,hst,h1,fun i hi hj=>⟨zba h _ _ (h2 i hi hj).1,zba h _ _ (h2 i hi hj).2⟩⟩
 ·obtain ⟨h00,hs,h0,hr⟩:=hr
  refine ⟨h00,hs,h0,fun i hi=>?_⟩
  obtain ⟨v,h1,h2,h3⟩:=hr i hi
  exact ⟨v,h1,zba h _ _ h2,h3⟩
 ·exact hr
 ·exact hr
structure Inv (ρ:Mp) (h:H) (n:Nat) (w:World):Prop where
 obj:∀ b o,getO h b=some o→∃ r base,ρ b=some (r,base)∧relO ρ (ρ.g b) o w.heap[r]? base
 inj:∀ b c o p r x y,getO h b=some o→getO h c=some p→ρ b=some (r,x)→ρ c=some (r,y)→b=c
 dom:∀ b,ρ b≠none→b < n
 rng:∀ b r x,ρ b=some (r,x)→r < w.heap.size
 lim:n≤18446744073709551615
 st:∀ i,i < KG→ρ i=some (i,0)
def live (ρ:Mp) (h:H) (r:Nat):Prop:=∃ b o x,KG≤b∧getO h b=some o∧ρ b=some (r,x)
structure Goes (ρ:Mp) (h:H) (n:Nat) (w:World) (σ:Mp) (g:H) (m:Nat) (v:World):Prop where
 inv:Inv σ g m v
 le:ρ.le σ
 next:n≤m
 size:w.heap.size≤v.heap.size
 keep:∀ r,r < w.heap.size→¬ live ρ h r→v.heap[r]?=w.heap[r]?
 lives:∀ r,r < w.heap.size→live σ g r→live ρ h r
 io:v.os=w.os∧v.output=w.output
theorem Goes.refl {ρ:Mp} {h:H} {n:Nat} {w:World} (hi:Inv ρ h n w):Goes ρ h n w ρ h n w:=
 ⟨hi,Mp.le_refl _,Nat.le_refl _,Nat.le_refl _,fun _ _ _=>rfl,fun _ _ h=>h,rfl,rfl⟩
theorem Goes.trans {ρ σ τ:Mp} {h g k:H} {n m j:Nat} {w v u:World} (a:Goes ρ h n w σ g m v) (b:Goes σ g m v τ k j u):Goes ρ h n w τ k j u:=
 ⟨b.inv,Mp.le_trans a.le b.le,Nat.le_trans a.next b.next,Nat.le_trans a.size b.size,
  fun r hr hl=>(b.keep r (Nat.lt_of_lt_of_le hr a.size) (fun hx=>hl (a.lives r hr hx))).trans (a.keep r hr hl),
  fun r hr hl=>a.lives r hr (b.lives r (Nat.lt_of_lt_of_le hr a.size) hl),
  b.io.1.trans a.io.1,b.io.2.trans a.io.2⟩
theorem Inv.kg {ρ:Mp} {h:H} {n:Nat} {w:World} (hi:Inv ρ h n w):KG≤w.heap.size:=hi.rng (KG - 1) _ _ (hi.st (KG - 1) (by decide))
end
end Go.VE
namespace Go.VE
noncomputable section
def inK (k:IntKind) (m:Int):Prop:=k.min≤m∧m≤k.max
theorem zb0 (k:IntKind):(k.min=match k with | .i8=>-128 | .i16=>-32768 | .i32=>-2147483648 | .i64=>-9223372036854775808 | _=>0)∧
  (k.max=match k with | .i8=>127 | .i16=>32767 | .i32=>2147483647 | .i64=>9223372036854775807 | .u8=>255 | .u16=>65535 | .u32=>4294967295 | .u64=>18446744073709551615):=by
 cases k<;>exact ⟨rfl,rfl⟩
theorem zhq (k:IntKind) (z:Int):encI k (k.wrap z)=encI k z∧inK k (k.wrap z):=by
 unfold inK
 rw [(zb0 k).1,(zb0 k).2]
 cases k<;>simp only [IntKind.wrap,IntKind.bits,IntKind.signed,encI,zad,moN,Bool.true_and,Bool.false_and,Bool.false_eq_true,if_false,decide_eq_true_eq,Nat.reduceSub,Int.reducePow,ge_iff_le]<;>(try split)<;>omega
theorem enc_lt (k:IntKind) (z:Int):encI k z < moN (zad k):=by
 cases k<;>simp only [encI,zad,moN]<;>omega
theorem zh0 {k:IntKind} {x y:Int} (hx:inK k x) (hy:inK k y) (h:encI k x=encI k y):x=y:=by
 unfold inK at hx hy
 rw [(zb0 k).1,(zb0 k).2] at hx hy
 cases k<;>simp only [encI,zad,moN] at h hx hy<;>omega
theorem zyi (k:IntKind) (x y:Int):encI k (x + y)=(encI k x + encI k y) % moN (zad k):=by
 cases k<;>simp only [encI,zad,moN]<;>omega
theorem zym (k:IntKind) (x y:Int):encI k (x - y)=(encI k x + (moN (zad k) - encI k y)) % moN (zad k):=by
 cases k<;>simp only [encI,zad,moN]<;>omega
theorem zyk (k:IntKind) (x:Int):encI k (0 - x)=(moN (zad k) - encI k x) % moN (zad k):=by
 cases k<;>simp only [encI,zad,moN]<;>omega
theorem mo_pos (k:IntKind):0 < moN (zad k):=by cases k<;>decide
theorem zex (k:IntKind) (x:Int):((encI k x:Nat):Int)=x % (moN (zad k):Int):=by
 unfold encI
 have:=mo_pos k
 exact Int.toNat_of_nonneg (Int.emod_nonneg _ (by omega))
theorem zyj (k:IntKind) (x y:Int):encI k (x * y)=(encI k x * encI k y) % moN (zad k):=by
 have:((encI k (x * y):Nat):Int)=((encI k x * encI k y) % moN (zad k):Nat):=by
  rw [zex,Int.mul_emod,Int.natCast_emod,Int.natCast_mul,zex,zex]
 exact_mod_cast this
theorem zcu {k:IntKind} {x:Int} (hx:inK k x):(encI k x < hiN (zad k) ↔ 0≤x)∧(0≤x→(encI k x:Int)=x):=by
 unfold inK at hx
 rw [(zb0 k).1,(zb0 k).2] at hx
 cases k<;>simp only [encI,zad,moN,hiN] at hx ⊢<;>omega
theorem zgj {k:IntKind} {m:Nat} (h:m < moN (zad k)):encI k (m:Int)=m:=by
 cases k<;>simp only [encI,zad,moN] at h ⊢<;>omega
theorem zkw {k:IntKind} {m:Nat} (h:m < hiN (zad k)):inK k (m:Int):=by
 unfold inK
 rw [(zb0 k).1,(zb0 k).2]
 cases k<;>simp only [zad,hiN] at h ⊢<;>omega
theorem zlt (k:IntKind):hiN (zad k)≤moN (zad k):=by cases k<;>decide
def upN' (k:Nat):Nat:=br (Nat.blt k 4) (hiN k) 0
theorem zlr {k:IntKind} {x y:Int} (hx:inK k x) (hy:inK k y):
  (x < y ↔ (encI k x + upN' (zad k)) % moN (zad k) < (encI k y + upN' (zad k)) % moN (zad k)):=by
 unfold inK at hx hy
 rw [(zb0 k).1,(zb0 k).2] at hx hy
 cases k<;>simp only [encI,zad,moN,upN',show Nat.blt 0 4=true from rfl,show Nat.blt 1 4=true from rfl,show Nat.blt 2 4=true from rfl,show Nat.blt 3 4=true from rfl,
  show Nat.blt 4 4=false from rfl,show Nat.blt 5 4=false from rfl,show Nat.blt 6 4=false from rfl,show Nat.blt 7 4=false from rfl,zb2,zbe,hiN] at hx hy ⊢<;>omega
theorem zeo {j k:IntKind} (h:zad j=zad k):j=k:=by
 cases j<;>cases k<;>first | rfl | (simp [zad] at h)
theorem zn6 (k:IntKind):(2 ^ k.bits:Nat)=moN (zad k):=by cases k<;>rfl
theorem zb8 (k:IntKind) (x:Int):(BitVec.ofInt k.bits x).toNat=encI k x:=by
 rw [BitVec.toNat_ofInt]
 unfold encI
 rw [show ((2 ^ k.bits:Nat):Int)=(moN (zad k):Int) by rw [zn6]]
theorem zvf (k:IntKind) (r:BitVec k.bits):encI k (k.wrap r.toNat)=r.toNat:=by
 rw [(zhq k _).1]
 have h:=r.isLt
 rw [zn6] at h
 exact zgj h
end
end Go.VE
